/- Lemmas of this claim (SR,SS,ST,SU,TC). -/
import Derived.Test.YtgbeliajhccndaaKM
section
set_option linter.unusedVariables false
set_option linter.unusedSimpArgs false
namespace Go.Proofs.Ytgbeliajhccndaa
open Go.RowKit Go.Proofs.YtgbeliajhccndaaW.PrintWords Go.Proofs.YtgbeliajhccndaaW.PrintLast Go.Proofs.YtgbeliajhccndaaW.PrintMore PP
def climb (T P:List Int):Nat → Int → Int → Option Int
 | 0,_,_=>none
 | k + 1,p,m=>if p = m then some m else if inB T.length p && inB T.length m then (if P.getD p.toNat 0 > P.getD m.toNat 0 then climb T P k (T.getD p.toNat 0) m else climb T P k p (T.getD m.toNat 0)) else none
def metF (T P:List Int) (k:Nat):Int → List Int → Option Int
 | m,[]=>some m
 | m,p :: r=>if inB T.length p then (if T.getD p.toNat 0 < 0 then metF T P k m r else match climb T P k p (if m < 0 then p else m) with | some m'=>metF T P k m' r | none=>none) else none
theorem climb_next {T P:List Int} {k:Nat} {p m r:Int} (h:climb T P (k + 1) p m = some r) (hne:p ≠ m) :
 (0 ≤ p ∧ p < (T.length:Int)) ∧ (0 ≤ m ∧ m < (T.length:Int)) ∧ (if P.getD p.toNat 0 > P.getD m.toNat 0 then climb T P k (T.getD p.toNat 0) m else climb T P k p (T.getD m.toNat 0)) = some r:=by
 rw [climb,if_neg hne] at h
 split at h
 ·rename_i hh
  simp only [Bool.and_eq_true] at hh
  exact ⟨inB_iff hh.1,inB_iff hh.2,h⟩
 ·cases h
theorem metF_step {T P:List Int} {k:Nat} {m r:Int} {l:List Int} {i:Nat} (hi:i < l.length) (h:metF T P k m (l.drop i) = some r) :
 (0 ≤ l.getD i 0 ∧ l.getD i 0 < (T.length:Int)) ∧ (if T.getD (l.getD i 0).toNat 0 < 0 then metF T P k m (l.drop (i + 1)) else match climb T P k (l.getD i 0) (if m < 0 then l.getD i 0 else m) with | some m'=>metF T P k m' (l.drop (i + 1)) | none=>none) = some r:=by
 rw [List.drop_eq_getElem_cons hi,metF] at h
 have e:l.getD i 0 = l[i]:=by simp [List.getD_eq_getElem?_getD,hi]
 rw [e]
 split at h
 ·rename_i hh
  exact ⟨inB_iff hh,h⟩
 ·cases h
theorem int_i {w:World} {A:Option Addr} {l:List Int} (h:(Kd.int .i64).C w A l.length l) {x:Int} (h0:0 ≤ x) (h1:x < (l.length:Int)):∃ ad,A = some ad ∧ w.cell? (ad.add x.toNat) = some (.int .i64 (l.getD x.toNat 0)):=int_at h (by omega)
set_option maxHeartbeats 4000000 in
set_option maxRecDepth 20000 in
theorem met_any (T P l:List Int) (A B C:Option Addr) (ca cb cc K:Nat) (r:Int) (w:World) (hT:(Kd.int .i64).C w A T.length T) (hP:(Kd.int .i64).C w B P.length P) (hL:(Kd.int .i64).C w C l.length l)
 (hca:T.length ≤ ca) (hcb:P.length ≤ cb) (hcc:l.length ≤ cc) (hTP:P.length = T.length) (hr:metF T P K (-1) l = some r) :
 Calls Try.prog 85 #[.slice A T.length ca,.slice B P.length cb,.slice C l.length cc] w fun e w'=>e = .returned (.int .i64 r) ∧ Below w.heap.size w w':=by
 have HT:=Lib.hid hT
 have HP:=Lib.hid hP
 have HL:=Lib.hid hL
 have hm:=hT.2.1
 have hm2:=hP.2.1
 have hm3:=hL.2.1
 have HR:=Lib.hid hr
 have HTP:=Lib.hid hTP
 clear hT hP hL hr
 obtain ⟨np,hnp⟩:∃ np,np = P.length:=⟨_,rfl⟩
 rw [← hnp] at hcb hm2 ⊢
 have HNP:=Lib.hid hnp
 clear hnp hTP
 go_enter Try.func85,Try.ntmps85
 go_wp2
 go_loopg [7,9,12] (l.length) (fun k v7 _ v wr=>∃ (i:Nat) (m:Int),i ≤ l.length ∧ v = .int .i64 i ∧ v7 = .int .i64 m ∧ Hid (i + k = l.length) ∧ Hid (metF T P K m (l.drop i) = some r) ∧ Hid (Below w.heap.size w wr))
 case atStart=>exact ⟨0,-1,by omega,rfl,rfl,Lib.hid (by omega),Lib.hid (by simpa using HR.out),Lib.hid (Below.refl _ _)⟩
 case round=>
  obtain ⟨i,m,hi,rfl,rfl,HI,HM,HB⟩:=hrel
  by_cases hlt:i < l.length
  ·obtain ⟨ad,hA,hcell⟩:=int_at (Kd.C_below HL.out HB.out) hlt
   obtain rfl:=hA
   obtain ⟨hx,hst⟩:=metF_step hlt HM.out
   obtain ⟨x0,x1⟩:=hx
   have HST:=Lib.hid hst
   clear hst
   generalize l.getD i 0 = x at *
   obtain ⟨ad2,hA2,hcell2⟩:=int_i (Kd.C_below HT.out HB.out) x0 x1
   obtain rfl:=hA2
   by_cases hneg:T.getD x.toNat 0 < 0
   ·have HN:=Lib.hid (HST.out)
    rw [if_pos hneg] at HN
    generalize T.getD x.toNat 0 = tx at *
    go_wp2
    go_roundg (gk - 1)
    case measure=>have:=HI.out;omega
    case rel=>exact ⟨i + 1,m,by omega,by go_num,rfl,Lib.hid (by have:=HI.out;omega),HN,HB⟩
   ·have HN:=Lib.hid (HST.out)
    rw [if_neg hneg] at HN
    have htx:0 ≤ T.getD x.toNat 0:=by omega
    generalize T.getD x.toNat 0 = tx at *
    clear hneg
    obtain ⟨m2,hm2'⟩:∃ m2,(if m < 0 then x else m) = m2:=⟨_,rfl⟩
    rw [hm2'] at HN
    have HM2:=Lib.hid hm2'
    clear hm2'
    obtain ⟨m3,hm3'⟩:∃ m3,climb T P K x m2 = some m3:=by
     cases hq:climb T P K x m2 with
     | none=>rw [hq] at HN;cases HN.out
     | some z=>exact ⟨z,rfl⟩
    rw [hm3'] at HN
    have HC:=Lib.hid hm3'
    clear hm3'
    go_upto_if 22 with (fail)
    go_cut [7] (fun v wx=>v = .int .i64 m2 ∧ Hid (Below w.heap.size w wx))
    case first=>
     go_wp2
     ·go_meet
      exact ⟨by rw [← HM2.out,if_pos (by omega)],HB⟩
     ·go_meet
      exact ⟨by rw [← HM2.out,if_neg (by omega)],HB⟩
    case rest=>
     obtain ⟨rfl,HB2⟩:=hcut
     clear hcell hcell2
     go_wp2
     generalize gk = gk1 at *
     go_loopg [7,9] K (fun k v7 v9 wr=>∃ (p m':Int),v7 = .int .i64 m' ∧ v9 = .int .i64 p ∧ Hid (climb T P k p m' = some m3) ∧ Hid (Below w.heap.size w wr))
     case atStart=>exact ⟨x,m2,rfl,rfl,HC,HB2⟩
     case round=>
      clear HB2
      obtain ⟨p,m',rfl,rfl,HCL,HB3⟩:=hrel
      obtain ⟨k1,hk1⟩:∃ k1,gk = k1 + 1:=by
       cases gk with
       | zero=>have:=HCL.out;simp [climb] at this
       | succ z=>exact ⟨z,rfl⟩
      subst hk1
      by_cases hpm:p = m'
      ·subst hpm
       have hm4:m3 = p:=by have:=HCL.out;rw [climb,if_pos rfl] at this;injection this with this;exact this.symm
       subst hm4
       go_wp2
       go_roundg (gk1 - 1)
       case measure=>have:=HI.out;omega
       case rel=>exact ⟨i + 1,m3,by omega,by go_num,rfl,Lib.hid (by have:=HI.out;omega),HN,HB3⟩
      ·obtain ⟨⟨p0,p1⟩,⟨q0,q1⟩,hcl⟩:=climb_next HCL.out hpm
       have HCL2:=Lib.hid hcl
       clear hcl
       obtain ⟨adT,hAT,cT1⟩:=int_i (Kd.C_below HT.out HB3.out) p0 p1
       obtain ⟨adT',hAT',cT2⟩:=int_i (Kd.C_below HT.out HB3.out) q0 q1
       injection hAT with hAT
       subst hAT
       injection hAT' with hAT'
       subst hAT'
       obtain ⟨adP,hAP,cP1⟩:=int_i (Kd.C_below HP.out HB3.out) p0 (by have:=HTP.out;omega)
       obtain ⟨adP',hAP',cP2⟩:=int_i (Kd.C_below HP.out HB3.out) q0 (by have:=HTP.out;omega)
       obtain rfl:=hAP
       injection hAP' with hAP'
       subst hAP'
       have u1:p < (np:Int):=by have:=HTP.out;have:=HNP.out;omega
       have u2:m' < (np:Int):=by have:=HTP.out;have:=HNP.out;omega
       have hpm':decide (p = m') = false:=by simpa using hpm
       have hpm2:(p != m') = true:=by simpa using hpm
       generalize P.getD p.toNat 0 = Pp at *
       generalize P.getD m'.toNat 0 = Pm at *
       generalize T.getD p.toNat 0 = Tp at *
       generalize T.getD m'.toNat 0 = Tm at *
       by_cases hgt:Pp > Pm
       ·have HC2:Hid (climb T P k1 Tp m' = some m3):=Lib.hid (by have:=HCL2.out;rwa [if_pos hgt] at this)
        go_wp2
        go_quiet (fail)
        go_wp2
        go_roundg k1
        case measure=>omega
        case rel=>exact ⟨Tp,m',rfl,rfl,HC2,Lib.hid (by first | exact HB3.out | exact pw_below_drewN HB3.out _)⟩
       ·have HC2:Hid (climb T P k1 p Tm = some m3):=Lib.hid (by have:=HCL2.out;rwa [if_neg hgt] at this)
        go_wp2
        go_quiet (fail)
        go_wp2
        go_roundg k1
        case measure=>omega
        case rel=>exact ⟨p,Tm,rfl,rfl,HC2,Lib.hid (by first | exact HB3.out | exact pw_below_drewN HB3.out _)⟩
  ·go_wp2
   go_ret
   have h:=HM.out
   rw [List.drop_eq_nil_of_le (by omega),metF] at h
   injection h with h
   subst h
   exact ⟨rfl,HB.out⟩
end Go.Proofs.Ytgbeliajhccndaa
end
section
set_option linter.unusedVariables false
set_option linter.unusedSimpArgs false
namespace Go.Proofs.Ytgbeliajhccndaa
open Go.RowKit Go.Proofs.YtgbeliajhccndaaW.PrintWords Go.Proofs.YtgbeliajhccndaaW.PrintLast Go.Proofs.YtgbeliajhccndaaW.PrintMore PP
theorem int_flat {e base:Nat} {w w':World} {v:Value} {xs:List Int} (h:(Kd.int .i64).R e w base (fun _=>True) v xs) (hk:∀ k,v.ownBlock = some k → w'.heap[k]? = w.heap[k]?):(Kd.int .i64).R e w' base (fun _=>True) v xs:=by
 obtain ⟨_,inner,hown,hr⟩:=h
 exact ⟨fun _ _=>trivial,inner,own_move hown hk,hr.imp_ (fun p c hp=>hp)⟩
theorem rowI_block {e base:Nat} {w:World} {ok:Nat → Prop} {v:Value} {xs:List Int} (h:(Kd.int .i64).R e w base ok v xs) {k:Nat} (hk:v.ownBlock = some k):base ≤ k ∧ k < w.heap.size ∧ ∃ cells,w.heap[k]? = some (.cells cells e (0,0)):=by
 obtain ⟨inner,ho⟩:=Kd.R_own h
 obtain ⟨c,hc⟩:=own_typed ho k hk
 exact ⟨own_base ho k hk,blk_lt hc,c,hc⟩
def zH:Hd:=⟨none,0,0⟩
structure Ld (base:Nat) (wr:World) (gh:Nat) (hs:List Hd) (rs:List (List Int)):Prop where
 blk:wr.heap[gh]? = some (.cells (hs.map encH).toArray 34 (0,0))
 len:hs.length = rs.length
 row:∀ i,i < hs.length → (Kd.int .i64).R 3 wr base (fun _=>True) (encH (hs.getD i zH)) (rs.getD i [])
 apart:∀ i j k,i < hs.length → j < hs.length → i ≠ j → (encH (hs.getD i zH)).ownBlock = some k → (encH (hs.getD j zH)).ownBlock ≠ some k
section
variable {base gh:Nat} {wr W:World} {hs:List Hd} {rs:List (List Int)}
theorem Ld.cell (h:Ld base wr gh hs rs) {i:Nat} (hi:i < hs.length):wr.cell? ⟨gh,i,none⟩ = some (encH (hs.getD i zH)):=by
 rw [blk_cell h.blk i];simp [List.getD_eq_getElem?_getD,hi]
theorem Ld.below (h:Ld base wr gh hs rs) (hb:Below wr.heap.size wr W):Ld base W gh hs rs:=
 ⟨blkB hb h.blk,h.len,fun i hi=>int_flat (h.row i hi) (fun k hk=>by obtain ⟨_,h1,_⟩:=rowI_block (h.row i hi) hk;exact hb.block k h1),h.apart⟩
theorem Ld.ne (h:Ld base wr gh hs rs) {i k:Nat} (hi:i < hs.length) (hk:(encH (hs.getD i zH)).ownBlock = some k):k ≠ gh:=by
 obtain ⟨_,_,c,hc⟩:=rowI_block (h.row i hi) hk
 intro e
 subst e
 rw [h.blk] at hc
 cases hc
theorem Ld.C (h:Ld base wr gh hs rs) {i:Nat} (hi:i < hs.length):(hs.getD i zH).n = (rs.getD i []).length ∧ (hs.getD i zH).n ≤ (hs.getD i zH).c ∧ (Kd.int .i64).C wr (hs.getD i zH).a (rs.getD i []).length (rs.getD i []):=Kd.R_reads' (h.row i hi)
theorem Ld.app (h:Ld base wr gh hs rs) {i:Nat} (hi:i < hs.length) {h1:Hd} {x:Int} {w1:World} (hR:(Kd.int .i64).R 3 w1 base (fun _=>True) (encH h1) (rs.getD i [] ++ [x])) (hg:wr.grownBy w1 (encH (hs.getD i zH)).ownBlock)
 (hat:(encH h1).ownBlock = (encH (hs.getD i zH)).ownBlock ∨ ∃ b,(encH h1).ownBlock = some b ∧ wr.heap.size ≤ b) :
 Ld base (w1.setCell ⟨gh,i,none⟩ (encH h1)) gh (hs.set i h1) (rs.set i (rs.getD i [] ++ [x])):=by
 have hgl:=blk_lt h.blk
 have hblk1:w1.heap[gh]? = some (.cells (hs.map encH).toArray 34 (0,0)):=by
  rw [hg.block gh hgl (fun e=>h.ne hi e.symm rfl)];exact h.blk
 have hne1:∀ k,(encH h1).ownBlock = some k → k ≠ gh:=by
  intro k hk e
  obtain ⟨_,_,c,hc⟩:=rowI_block hR hk
  subst e
  rw [hblk1] at hc
  cases hc
 have hnj:∀ j k,j < hs.length → j ≠ i → (encH (hs.getD j zH)).ownBlock = some k → (encH h1).ownBlock ≠ some k:=by
  intro j k hj hji hk e
  rcases hat with hat | ⟨b,hb,hb2⟩
  ·rw [hat] at e
   exact h.apart j i k hj hi hji hk e
  ·rw [hb] at e
   injection e with e
   obtain ⟨_,h2,_⟩:=rowI_block (h.row j hj) hk
   omega
 have gs:∀ j,j ≠ i → (hs.set i h1).getD j zH = hs.getD j zH:=fun j hj=>by simp [List.getD_eq_getElem?_getD,List.getElem?_set,Ne.symm hj]
 have gi:(hs.set i h1).getD i zH = h1:=by simp [List.getD_eq_getElem?_getD,List.getElem?_set,hi]
 have rs1:∀ j,j ≠ i → (rs.set i (rs.getD i [] ++ [x])).getD j [] = rs.getD j []:=fun j hj=>by simp [List.getD_eq_getElem?_getD,List.getElem?_set,Ne.symm hj]
 have ri:(rs.set i (rs.getD i [] ++ [x])).getD i [] = rs.getD i [] ++ [x]:=by
  have:=h.len
  have:i < rs.length:=by omega
  simp [List.getD_eq_getElem?_getD,List.getElem?_set,this]
 refine ⟨?_,by simp [h.len],fun j hj=>?_,fun a b k ha hb hab hk=>?_⟩
 ·rw [blk_set hblk1]
  simp [List.map_set]
 ·rw [List.length_set] at hj
  by_cases e:j = i
  ·subst e
   rw [gi,ri]
   exact int_flat hR (fun k hk=>Below.heap_setCell _ _ _ _ (hne1 k hk))
  ·rw [gs j e,rs1 j e]
   refine int_flat (h.row j hj) (fun k hk=>?_)
   obtain ⟨_,h2,_⟩:=rowI_block (h.row j hj) hk
   rw [Below.heap_setCell _ _ _ _ (h.ne hj hk)]
   exact hg.block k h2 (fun e2=>h.apart j i k hj hi e hk e2.symm)
 ·rw [List.length_set] at ha hb
  by_cases e:a = i
  ·subst e
   rw [gi] at hk
   rw [gs b (Ne.symm hab)]
   exact fun e2=>hnj b k hb (Ne.symm hab) e2 hk
  ·rw [gs a e] at hk
   by_cases e2:b = i
   ·subst e2
    rw [gi]
    exact hnj a k ha e hk
   ·rw [gs b e2]
    exact h.apart a b k ha hb hab hk
theorem Ld.made (w:World) (n base:Nat):Ld base (w.alloc (.cells (madeCells #[.slice none 0 0] n) 34)) w.heap.size (List.replicate n zH) (List.replicate n []):=by
 have hg:∀ i,(List.replicate n zH).getD i zH = zH:=fun i=>by simp [List.getD_eq_getElem?_getD,List.getElem?_replicate];split <;> rfl
 have hr:∀ i,(List.replicate n ([]:List Int)).getD i [] = []:=fun i=>by simp [List.getD_eq_getElem?_getD,List.getElem?_replicate];split <;> rfl
 refine ⟨?_,by simp,fun i hi=>?_,fun i j k hi hj hij hk=>?_⟩
 ·rw [blk_new]
  have:madeCells #[.slice none 0 0] n = ((List.replicate n zH).map encH).toArray:=by
   apply Array.ext'
   show _ = ((List.replicate n zH).map encH)
   apply List.ext_getElem
   ·simp [madeCells]
   ·intro i h1 h2
    simp [madeCells,Nat.mod_one,encH,zH]
  rw [this]
 ·rw [hg,hr]
  exact Kd.R_nil _ _ _ _ _
 ·rw [hg] at hk
  simp [encH,zH,Value.ownBlock] at hk
end
def addAt (rs:List (List Int)) (c:Nat) (x:Int):List (List Int):=rs.set c (rs.getD c [] ++ [x])
def addAll (x:Int):List (List Int) → List Int → List (List Int)
 | rs,[]=>rs
 | rs,c :: r=>addAll x (addAt rs c.toNat x) r
theorem addAll_step {x:Int} {rs R:List (List Int)} {l:List Int} {i:Nat} (hi:i < l.length) (h:R = addAll x rs (l.drop i)):R = addAll x (addAt rs (l.getD i 0).toNat x) (l.drop (i + 1)):=by
 rw [h,List.drop_eq_getElem_cons hi,addAll];simp [List.getD_eq_getElem?_getD,hi]
end Go.Proofs.Ytgbeliajhccndaa
end
section
set_option linter.unusedVariables false
set_option linter.unusedSimpArgs false
namespace Go.Proofs.Ytgbeliajhccndaa
open Go.RowKit Go.Proofs.YtgbeliajhccndaaW.PrintWords Go.Proofs.YtgbeliajhccndaaW.PrintLast Go.Proofs.YtgbeliajhccndaaW.PrintMore PP
def leadF:List (List Int) → Int → List (List Int) → List (List Int)
 | rs,_,[]=>rs
 | rs,i,t :: r=>leadF (addAll i rs t) (i + 1) r
def leadOf (f:S38):List (List Int):=leadF (List.replicate f.f4.length []) 0 (waysL f)
def predB (f:S38) (i:Nat) (b:S46):Bool:=!(i == 0 && decide (0 < b.f3.length)) && b.f3 == (leadOf f).getD i []
def predsB (f:S38) (i:Nat):List S46 → Bool
 | []=>true
 | b :: r=>predB f i b && predsB f (i + 1) r
def predsE (f:S38):Int:=if predsB f 0 f.f4 = true then 0 else 91
theorem leadF_step {rs R:List (List Int)} {l:List (List Int)} {i:Nat} (hi:i < l.length) (h:R = leadF rs (i:Int) (l.drop i)):R = leadF (addAll (i:Int) rs (l.getD i [])) ((i + 1:Nat):Int) (l.drop (i + 1)):=by
 rw [h,List.drop_eq_getElem_cons hi,leadF];simp [List.getD_eq_getElem?_getD,hi]
set_option maxHeartbeats 4000000 in
theorem ways_all (g:Nat) (d:Ck) (v3 v4 v5 v6:Value) (w0 w:World) (h0:FnAt w0 d.p d.f d.A1 d.c1 d.A3 d.c3 d.A4 d.c4) (hb0:Below w0.heap.size w0 w) (h:CkW w g d v3 v4 v5 v6) (hb4:d.f.f4.length ≤ 2000000) :
 Calls Try.prog 37 #[.pointer (some ⟨g,0,none⟩)] w fun e w'=>∃ A c hs,e = .returned (.slice A (waysL d.f).length c) ∧ (waysL d.f).length ≤ c ∧ kH.R 34 w' w.heap.size (fun _=>True) (.slice A (waysL d.f).length c) hs ∧ Rows_ w0 hs (waysL d.f) ∧ Below w.heap.size w w':=by
 obtain ⟨fs,mn,A,c,p,f,A1,c1,A3,c3,A4,c4⟩:=d
 have hF:FnAt w p f A1 c1 A3 c3 A4 c4:=h.at_
 have hb4':f.f4.length ≤ 2000000:=hb4
 have y2:w.cell? ⟨g,2,none⟩ = some (.pointer (some p)):=h.y2
 have x4:=hF.c4
 have HK:=Lib.hid h
 have HF:Hid (FnAt w0 p f A1 c1 A3 c3 A4 c4):=Lib.hid h0
 have HB0:=Lib.hid hb0
 clear hF hb4 h h0 hb0
 go_enter Try.func37,Try.ntmps37
 go_wp2
 go_loopg [3,14] (f.f4.length) (fun k u v wr=>∃ (i:Nat) (hs:List Hd),i ≤ f.f4.length ∧ v = .int .i64 i ∧ hs.length = i ∧ Hid (i + k = f.f4.length) ∧ Hid (kH.R 34 wr w.heap.size (fun _=>True) u hs) ∧ Hid (Rows_ w0 hs ((waysL f).take i)) ∧ Hid (Below w.heap.size w wr))
 case atStart=>exact ⟨0,[],by omega,rfl,rfl,Lib.hid (by omega),Lib.hid (Kd.R_nil _ _ _ _ _),Lib.hid (by simpa using Rows_.nil w0),Lib.hid (Below.refl _ _)⟩
 case round=>
  clear y2 x4
  obtain ⟨i,hs,hi,rfl,hlen,HI,HR,HW,HB⟩:=hrel
  have HLN:=Lib.hid hlen
  clear hlen
  by_cases hlt:i < f.f4.length
  ·obtain ⟨ad4,B0,d0,B1,d1,B4,d4,B5,d5,hA4,q0,q1,q2,q3,q4,q5,_,_,_,_,l4,r4,_,_⟩:=at_T46 HF.out.r4 (i:Int) (by omega) (by omega)
   obtain rfl:=hA4
   rw [Int.toNat_natCast] at q0 q1 q2 q3 q4 q5
   have q0:=cellB (below_then HB0.out HB0.out.size HB.out) q0
   have q1:=cellB (below_then HB0.out HB0.out.size HB.out) q1
   have q2:=cellB (below_then HB0.out HB0.out.size HB.out) q2
   have q3:=cellB (below_then HB0.out HB0.out.size HB.out) q3
   have q4:=cellB (below_then HB0.out HB0.out.size HB.out) q4
   have q5:=cellB (below_then HB0.out HB0.out.size HB.out) q5
   have HT:Hid ((waysL f).take (i + 1) = (waysL f).take i ++ [(rd_T46 f.f4 (i:Int)).f2.f2]):=Lib.hid (by
    have hl:i < (waysL f).length:=by simpa [waysL] using hlt
    rw [List.take_succ_eq_append_getElem hl];simp [waysL,rd_T46,List.getD_eq_getElem?_getD,hlt])
   have R4:=Lib.hid r4
   clear r4
   generalize rd_T46 f.f4 (i:Int) = b at *
   obtain ⟨O,hO⟩:∃ O:Obj,O = .cells #[.slice B0 b.f0.length d0,.slice B1 b.f1.length d1,.int .i64 b.f2.f0,.int .i64 b.f2.f1,.slice B4 b.f2.f2.length d4,.slice B5 b.f3.length d5] 46:=⟨_,rfl⟩
   have HO:=Lib.hid hO
   clear hO
   go_wp2_with (at_builtin;refine stop_intro ?_)
   unfold Stop
   rw [← HO.out]
   refine Kd.R_append kH (w0:=w) w.heap.size rfl (.tmp 18) (.tmp 22) 73 34 (.slice none 0 0) 24 rfl Try.underlying73 info34 rfl (by decide) (by decide) _ hs ⟨B4,b.f2.f2.length,d4⟩ [.slice B4 b.f2.f2.length d4] (fun _=>True) (fun _=>False) rfl (congrArg (fun n=>Value.slice (some ⟨n,0,none⟩) 1 1) (size_alloc' _ _).symm) rfl (fun _ h=>h.elim) (fun _ _=>trivial) (Kd.R_alloc HR.out O) (below_alloc HB.out O) ?base ?len ?_
   case base=>rw [size_alloc'];have:=HB.out.size;omega
   case len=>have:=HLN.out;omega
   intro v1 w2 hR2 hB2 _ _
   have HR2:=Lib.hid hR2
   have HB2:=Lib.hid hB2
   clear hR2 hB2
   go_wp2
   go_roundg (gk - 1)
   case measure=>have:=HI.out;omega
   case rel=>exact ⟨i + 1,hs ++ [⟨B4,b.f2.f2.length,d4⟩],by omega,by go_num,by have:=HLN.out;simp;omega,Lib.hid (by have:=HI.out;omega),HR2,Lib.hid (by rw [HT.out];exact HW.out.snoc rfl l4 R4.out),HB2⟩
  ·obtain ⟨A',c',hv,hc',hC⟩:=Kd.R_reads HR.out
   go_wp2
   go_ret
   have hil:i = f.f4.length:=by omega
   have hw:(waysL f).take i = waysL f:=List.take_of_length_le (by simp [waysL];omega)
   have HW2:=HW.out
   rw [hw] at HW2
   have hll:hs.length = (waysL f).length:=HW2.1
   refine ⟨A',c',hs,by rw [← hll];exact congrArg Ending.returned hv,by rw [← hll];exact hc',?_,HW2,HB.out⟩
   have h2:=HR.out
   rw [hv] at h2
   rw [← hll]
   exact h2
theorem term_len {f:S38} {t:S44} (h:termB f t = true):t.f2.length ≤ 2:=by
 unfold termB at h
 repeat' split at h
 all_goals first | (simp only [Bool.and_eq_true,beq_iff_eq] at h;have:=h.2;omega) | cases h
theorem Ld.grown_blk {base gh:Nat} {wr W:World} {hs:List Hd} {rs:List (List Int)} (h:Ld base wr gh hs rs) {i:Nat} (hi:i < hs.length) (hg:wr.grownBy W (encH (hs.getD i zH)).ownBlock):W.heap[gh]? = some (.cells (hs.map encH).toArray 34 (0,0)):=by
 rw [hg.block gh (blk_lt h.blk) (fun e=>h.ne hi e.symm rfl)];exact h.blk
theorem head_at {w wr:World} {b:Nat} {A:Option Addr} {c:Nat} {hs:List Hd} {ts:List (List Int)} (h:kH.R 34 wr b (fun _=>True) (.slice A ts.length c) hs) (hr:Rows_ w hs ts) {i:Nat} (hi:i < ts.length) :
 ∃ ad A0 c0,A = some ad ∧ wr.cell? (ad.add i) = some (.slice A0 (ts.getD i []).length c0) ∧ (ts.getD i []).length ≤ c0 ∧ (Kd.int .i64).C w A0 (ts.getD i []).length (ts.getD i []):=by
 obtain ⟨_,_,h3⟩:=(Kd.R_reads' h).2.2
 have hl:=hr.1
 obtain ⟨ad,e,hc⟩:=h3 (by omega)
 have hjl:i < hs.length:=by omega
 obtain ⟨cc,hcl,hck,hcc⟩:=hc i _ (List.getElem?_eq_getElem hjl)
 obtain ⟨r1,r2,r3⟩:=hr.2 i _ (ts.getD i []) (List.getElem?_eq_getElem hjl) (by simp [List.getD_eq_getElem?_getD,hi])
 have hc1:cc = [encH hs[i]]:=hck
 subst hc1
 have:=hcc 0 _ rfl
 refine ⟨ad,hs[i].a,hs[i].c,e,?_,by rw [← r1];exact r2,r3⟩
 rw [← r1]
 have e2:(ad.add (i * kH.sz + 0)) = ad.add i:=by rw [show i * kH.sz + 0 = i from by show i * 1 + 0 = i;omega]
 rw [e2] at this
 exact this
theorem heads_keep {base b gh:Nat} {wr W:World} {hs:List Hd} {rs:List (List Int)} {v:Value} {xs:List Hd} (h:kH.R 34 wr b (fun _=>True) v xs) (hb:gh < b) (hL:Ld base wr gh hs rs) {i:Nat} (hi:i < hs.length)
 (hg:wr.grownBy W (encH (hs.getD i zH)).ownBlock) (j:Nat) (u:Value):kH.R 34 (W.setCell ⟨gh,j,none⟩ u) b (fun _=>True) v xs:=by
 obtain ⟨_,inner,hown,hr⟩:=h
 refine ⟨fun _ _=>trivial,inner,own_move hown (fun k hk=>?_),hr.imp_ (fun p c hp=>hp)⟩
 have hbk:=own_base hown k hk
 obtain ⟨c,hc⟩:=own_typed hown k hk
 rw [Below.heap_setCell _ _ _ _ (by show k ≠ gh;omega)]
 refine hg.block k (blk_lt hc) (fun e=>?_)
 obtain ⟨_,_,c2,hc2⟩:=rowI_block (hL.row i hi) e.symm
 rw [hc] at hc2
 cases hc2
theorem addAt_len {rs:List (List Int)} {c m:Nat} {x:Int} (h:∀ j,(rs.getD j []).length ≤ m) (j:Nat):((addAt rs c x).getD j []).length ≤ m + 1:=by
 unfold addAt
 rw [List.getD_eq_getElem?_getD,List.getElem?_set]
 split
 ·rename_i e
  split
  ·simp only [Option.getD_some,List.length_append,List.length_singleton];have:=h c;omega
  ·simp
 ·rw [← List.getD_eq_getElem?_getD];have:=h j;omega
set_option maxHeartbeats 8000000 in
set_option maxRecDepth 20000 in
theorem preds_any (g:Nat) (d:Ck) (v3 v4 v5 v6:Value) (w:World) (h:CkW w g d v3 v4 v5 v6) (hG:Good d) (hb4:d.f.f4.length ≤ 2000000) :
 Calls Try.prog 21 #[.pointer (some ⟨g,0,none⟩)] w fun e w'=>e = .returned (.int .i64 (predsE d.f)) ∧ Below w.heap.size w w':=by
 obtain ⟨fs,mn,A,c,p,f,A1,c1,A3,c3,A4,c4⟩:=d
 have hF:FnAt w p f A1 c1 A3 c3 A4 c4:=h.at_
 have hb4':f.f4.length ≤ 2000000:=hb4
 have hmk:=fun W=>print_make_of (P:=Try.prog) 73 34 (.slice none 0 0) 24 Try.underlying73 info34 rfl (by decide) f.f4.length (by omega) W
 have y2:w.cell? ⟨g,2,none⟩ = some (.pointer (some p)):=h.y2
 have x4:=hF.c4
 have HK:=Lib.hid h
 have HF:=Lib.hid hF
 have HG:=Lib.hid hG
 have hwl:(waysL f).length = f.f4.length:=by simp [waysL]
 have hbA:=below_alloc (Below.refl w.heap.size w) (.cells (madeCells #[.slice none 0 0] f.f4.length) 34)
 have HLD:=Lib.hid (Ld.made w f.f4.length w.heap.size)
 have HBA:=Lib.hid hbA
 have HKA:=Lib.hid (h.below hbA)
 have HB4:=Lib.hid hb4
 have HB4':=Lib.hid hb4'
 have HWL:=Lib.hid hwl
 clear hF hG hb4 h hbA hb4' hwl
 go_enter Try.func21,Try.ntmps21
 go_wp2_with (first | (go_at_call 37;with_reducible refine Calls.mono (ways_all g ⟨fs,mn,A,c,p,f,A1,c1,A3,c3,A4,c4⟩ v3 v4 v5 v6 w _ HF.out HBA.out HKA.out HB4.out) ?_;rintro e w2 ⟨Aw,cw,hs0,rfl,lw,rh_,rw_,hb2⟩;have HL2:=Lib.hid (HLD.out.below hb2);have HB2:=Lib.hid (below_then HBA.out HBA.out.size hb2);have HRH:=Lib.hid rh_;have HRW:=Lib.hid rw_;clear rh_ rw_ hb2) | (go_at_call 37;refine stop_intro ?_))
 have HTS:Hid (∀ i,i < (waysL f).length → ((waysL f).getD i []).all (inB f.f4.length) = true ∧ ((waysL f).getD i []).length ≤ 2):=Lib.hid (fun i hi=>by
  have hi':i < f.f4.length:=by have:=HWL.out;omega
  have e:(waysL f).getD i [] = (f.f4.getD i z46).f2.f2:=by simp [waysL,List.getD_eq_getElem?_getD,hi']
  rw [e]
  have hb:=HG.out.blocks _ (mem_getD z46 hi')
  exact ⟨(block_phis hb).2.2.2,term_len (block_term hb)⟩)
 have HLO:Hid (leadOf f = leadF (List.replicate f.f4.length []) 0 (waysL f)):=Lib.hid rfl
 obtain ⟨LO,hLO⟩:∃ LO,leadOf f = LO:=⟨_,rfl⟩
 rw [hLO] at HLO
 have HLO2:=Lib.hid hLO
 clear hLO
 have hwl:=HWL.out
 have hq4:=HB4'.out
 have hbts:(waysL f).length ≤ 2000000:=by omega
 have HWL2:=Lib.hid hwl
 have HRW2:Hid (Rows_ w hs0 (waysL f)):=HRW
 have HRH2:Hid (kH.R 34 w2 (w.heap.size + 1) (fun _=>True) (.slice Aw (waysL f).length cw) hs0):=Lib.hid (by have:=HRH.out;rwa [size_alloc'] at this)
 clear hwl HRW HRH y2 x4 hq4
 obtain ⟨ts,hts⟩:∃ ts,ts = waysL f:=⟨_,rfl⟩
 rw [← hts] at HTS HLO HWL2 HRW2 HRH2 hbts lw ⊢
 have HTE:=Lib.hid hts
 clear hts
 obtain ⟨gh,hgh⟩:∃ gh,gh = w.heap.size:=⟨_,rfl⟩
 have HGH:=Lib.hid hgh
 rw [← hgh] at HL2 ⊢
 clear hgh
 go_loopg [4,5,7,24] (ts.length) (fun k _ _ _ v wr=>∃ (i:Nat) (hs:List Hd) (rs:List (List Int)),i ≤ ts.length ∧ v = .int .i64 i ∧ Hid (i + k = ts.length) ∧ Hid (hs.length = f.f4.length) ∧ Hid (LO = leadF rs (i:Int) (ts.drop i)) ∧ Hid (Ld gh wr gh hs rs) ∧ Hid (Below w.heap.size w wr) ∧ Hid (kH.R 34 wr (w.heap.size + 1) (fun _=>True) (.slice Aw ts.length cw) hs0) ∧ Hid (∀ j,(rs.getD j []).length ≤ 2 * i))
 case atStart=>exact ⟨0,_,_,by omega,rfl,Lib.hid (by omega),Lib.hid (by simp),Lib.hid (by simpa using HLO.out),HL2,HB2,HRH2,Lib.hid (fun j=>by simp [List.getD_eq_getElem?_getD,List.getElem?_replicate];split <;> simp)⟩
 case round=>
  obtain ⟨i,hs,rs,hi,rfl,HI,HH,HL,HLd,HB,HRq,HN⟩:=hrel
  by_cases hlt:i < ts.length
  ·obtain ⟨ad,A0,c0,hA,hcell,lc0,hr0⟩:=head_at HRq.out HRW2.out hlt
   obtain rfl:=hA
   have HR0:=Lib.hid hr0
   have mt:=hr0.2.1
   clear hr0
   have HT1:=Lib.hid (HTS.out i hlt)
   have HNX:=Lib.hid (leadF_step hlt HL.out)
   generalize ts.getD i [] = t at *
   generalize hPL:addAll (i:Int) rs t = PL at *
   have HPL:=Lib.hid hPL.symm
   clear hPL
   generalize gk = gk1 at *
   have HB0:=HB
   have HLd0:=HLd
   have HN0:=HN
   have HRq0:=HRq
   obtain ⟨wq,hwq⟩:∃ wq,wq = wr:=⟨_,rfl⟩
   go_wp2
   go_loopg [7,31] (t.length) (fun k _ v wr=>∃ (j:Nat) (hs:List Hd) (rs:List (List Int)),j ≤ t.length ∧ v = .int .i64 j ∧ Hid (j + k = t.length) ∧ Hid (hs.length = f.f4.length) ∧ Hid (PL = addAll (i:Int) rs (t.drop j)) ∧ Hid (Ld gh wr gh hs rs) ∧ Hid (Below w.heap.size w wr) ∧ Hid (kH.R 34 wr (w.heap.size + 1) (fun _=>True) (.slice (some ad) ts.length cw) hs0) ∧ Hid (∀ q,(rs.getD q []).length ≤ 2 * i + j))
   case atStart=>exact ⟨0,hs,rs,by omega,rfl,Lib.hid (by omega),HH,Lib.hid (by simpa using HPL.out),HLd0,HB0,HRq0,Lib.hid (by simpa using HN0.out)⟩
   case round=>
    clear HLd0 HB0 HN0 HRq0 hcell
    obtain ⟨j,hs,rs,hj,rfl,HJ,HH2,HL3,HLd2,HB2',HRq2,HN2⟩:=hrel
    by_cases hlt2:j < t.length
    ·obtain ⟨ad,hA,hcell⟩:=int_at (Kd.C_below HR0.out HB2'.out) hlt2
     obtain rfl:=hA
     have hin:=List.all_eq_true.1 HT1.out.1 _ (mem_getD 0 hlt2)
     obtain ⟨x0,x1⟩:=inB_iff hin
     have HNX2:=Lib.hid (addAll_step hlt2 HL3.out)
     have hcl:(t.getD j 0).toNat < hs.length:=by have:=HH2.out;omega
     have HCL:=Lib.hid hcl
     generalize t.getD j 0 = x at *
     have hc:=HLd2.out.cell hcl
     obtain ⟨hd,hhd⟩:∃ hd,hd = hs.getD x.toNat zH:=⟨_,rfl⟩
     rw [← hhd] at hc
     have HGD:=Lib.hid hhd
     unfold encH at hc
     have hhl:=HH2.out
     clear hhd
     clear hcl hin
     go_wp2_with (at_builtin;refine stop_intro ?_)
     unfold Stop
     have hR:=HLd2.out.row _ HCL.out
     rw [← HGD.out] at hR
     have hbs:=HB2'.out.size
     have hgs:=HGH.out
     refine Kd.R_append (Kd.int .i64) (w0:=wr) (W:=wr) gh rfl (.tmp 40) (.tmp 42) 34 3 (.int .i64 0) 8 rfl Try.underlying34 info3 rfl (by decide) (by decide) (encH hd) (rs.getD x.toNat []) (i:Int) [.int .i64 (i:Int)] (fun _=>True) (fun _=>False) rfl rfl rfl (fun _ h=>h.elim) (fun _ _=>trivial) hR ?bel (by omega) ?len ?_
     case bel=>exact (Below.refl wr.heap.size wr).mono (by omega)
     case len=>have:=HN2.out x.toNat;have:=HT1.out.2;omega
     intro v1 w3 hR1 _ hg1 hat1
     obtain ⟨A3,k3,e3⟩:=Kd.R_slice hR1
     obtain ⟨h1,hh1⟩:∃ h1:Hd,v1 = encH h1:=⟨⟨A3,_,k3⟩,e3⟩
     subst hh1
     have hcd:=HLd2.out.cell HCL.out
     rw [HGD.out] at hg1 hat1
     have hblk:=HLd2.out.grown_blk HCL.out hg1
     have HLd3:=Lib.hid (HLd2.out.app HCL.out hR1 hg1 hat1)
     have hc3:w3.cell? ⟨gh,x.toNat,none⟩ = some (encH hd):=by
      rw [blk_cell hblk,HGD.out];have:=HCL.out;simp [List.getD_eq_getElem?_getD,this]
     have hf3:=blk_frozen hblk x.toNat
     have HRq3:=Lib.hid (heads_keep HRq2.out (by omega) HLd2.out HCL.out hg1 x.toNat (encH h1))
     have HB3:Hid (Below w.heap.size w (w3.setCell ⟨gh,x.toNat,none⟩ (encH h1))):=Lib.hid (by
      refine below_set (HB2'.out.grown hg1 hbs (fun k hk=>?_)) (by omega)
      obtain ⟨h2,_⟩:=rowI_block (HLd2.out.row _ HCL.out) hk
      omega)
     have HN3:=Lib.hid (addAt_len (c:=x.toNat) (x:=(i:Int)) HN2.out)
     clear hblk hg1 hat1 hR hR1 hcd e3 hbs hgs
     obtain ⟨h1a,h1n,h1c⟩:=h1
     obtain ⟨hda,hdn,hdc⟩:=hd
     unfold encH at hc3
     unfold encH
     go_wp2
     have ht2:=HT1.out.2
     go_roundg (gk - 1)
     case measure=>have:=HJ.out;omega
     case rel=>exact ⟨j + 1,_,addAt rs x.toNat (i:Int),by omega,by go_num,Lib.hid (by have:=HJ.out;omega),Lib.hid (by have:=HH2.out;simpa using this),HNX2,HLd3,HB3,HRq3,Lib.hid (fun q=>Nat.le_trans (HN3.out q) (by omega))⟩
    ·have HPE:Hid (PL = rs):=Lib.hid (by rw [HL3.out,List.drop_eq_nil_of_le (by omega),addAll])
     go_wp2
     go_roundg (gk1 - 1)
     case measure=>have:=HI.out;omega
     case rel=>exact ⟨i + 1,hs,rs,by omega,by go_num,Lib.hid (by have:=HI.out;omega),HH2,by rw [← HPE.out];exact HNX,HLd2,HB2',HRq2,Lib.hid (fun q=>by have:=HN2.out q;have:=HT1.out.2;omega)⟩
  ·have HLE:Hid (rs = LO):=Lib.hid (by rw [HL.out,List.drop_eq_nil_of_le (by omega),leadF])
   have y2:wr.cell? ⟨g,2,none⟩ = some (.pointer (some p)):=(HK.out.below HB.out).y2
   have x4:=(HF.out.below HB.out).c4
   have HLd1:=HLd
   have HB1:=HB
   have HH1:=HH
   obtain ⟨wq,hwq⟩:∃ wq,wq = wr:=⟨_,rfl⟩
   have HS1:Hid (Below wq.heap.size wq wr):=Lib.hid (by rw [hwq];exact Below.refl _ _)
   rw [← hwq] at HLd1 HB1
   have HR0:Hid (predsE f = if predsB f 0 (f.f4.drop 0) = true then 0 else 91):=Lib.hid rfl
   have hm4:=HF.out.r4.2.1
   obtain ⟨RR,hRR⟩:∃ RR,predsE f = RR:=⟨_,rfl⟩
   rw [hRR] at HR0
   have HRR:=Lib.hid hRR
   clear hwq hRR
   go_wp2
   clear HLd HB HH HI HL HRq HN
   go_loopg [8,9,10,11,55] (f.f4.length) (fun k _ _ _ _ v wr=>∃ (i:Nat),i ≤ f.f4.length ∧ v = .int .i64 i ∧ Hid (i + k = f.f4.length) ∧ Hid (RR = if predsB f i (f.f4.drop i) = true then 0 else 91) ∧ Hid (Below wq.heap.size wq wr))
   case atStart=>exact ⟨0,by omega,rfl,Lib.hid (by omega),HR0,HS1⟩
   case round=>
    clear y2 x4 HS1 HR0
    obtain ⟨i,hi,rfl,HI,HR,HS⟩:=hrel
    by_cases hlt3:i < f.f4.length
    ·obtain ⟨ad4,B0,d0,B1,d1,B4,d4,B5,d5,hA4,q0,q1,q2,q3,q4,q5,l0,r0,l1,r1,l4,r4,l5,r5⟩:=at_T46 HF.out.r4 (i:Int) (by omega) (by omega)
     obtain rfl:=hA4
     rw [Int.toNat_natCast] at q0 q1 q2 q3 q4 q5
     have q0:=cellB (below_then HB1.out HB1.out.size HS.out) q0
     have q1:=cellB (below_then HB1.out HB1.out.size HS.out) q1
     have q2:=cellB (below_then HB1.out HB1.out.size HS.out) q2
     have q3:=cellB (below_then HB1.out HB1.out.size HS.out) q3
     have q4:=cellB (below_then HB1.out HB1.out.size HS.out) q4
     have q5:=cellB (below_then HB1.out HB1.out.size HS.out) q5
     have R5:=Lib.hid r5
     have m5:=r5.2.1
     clear r0 r1 r4 r5
     have hx0:rd_T46 f.f4 (i:Int) = f.f4.getD i z46:=by simp [rd_T46]
     have HST:Hid (predB f i (rd_T46 f.f4 (i:Int)) = false → RR = 91):=Lib.hid (fun hh=>by
      rw [HR.out,List.drop_eq_getElem_cons hlt3,predsB]
      rw [hx0] at hh
      simp [List.getD_eq_getElem?_getD,hlt3] at hh
      rw [hh];rfl)
     have HNX:Hid (predB f i (rd_T46 f.f4 (i:Int)) = true → RR = if predsB f (i + 1) (f.f4.drop (i + 1)) = true then 0 else 91):=Lib.hid (fun hh=>by
      rw [HR.out,List.drop_eq_getElem_cons hlt3,predsB]
      rw [hx0] at hh
      simp [List.getD_eq_getElem?_getD,hlt3] at hh
      rw [hh];rfl)
     clear hx0
     generalize rd_T46 f.f4 (i:Int) = b at *
     have hcl:i < hs.length:=by have:=HH1.out;omega
     have hCC:=HLd1.out.C hcl
     obtain ⟨hd,hhd⟩:∃ hd,hd = hs.getD i zH:=⟨_,rfl⟩
     have hcc:=HLd1.out.cell hcl
     rw [← hhd] at hCC hcc
     obtain ⟨e1,e2,e3⟩:=hCC
     have hccq:=hcc
     have hcc:=cellB HS.out hcc
     unfold encH at hcc hccq
     have HPB:Hid (∀ b,predB f i b = (!(i == 0 && decide (0 < b.f3.length)) && b.f3 == rs.getD i [])):=Lib.hid (fun b=>by unfold predB;rw [HLO2.out,← HLE.out])
     generalize rs.getD i [] = L at *
     obtain ⟨hda,hdn,hdc⟩:=hd
     simp only at e1 e2 e3 hcc hccq
     subst e1
     have HCQ:=Lib.hid hccq
     clear hccq
     obtain ⟨O,hO⟩:∃ O:Obj,O = .cells #[.slice B0 b.f0.length d0,.slice B1 b.f1.length d1,.int .i64 b.f2.f0,.int .i64 b.f2.f1,.slice B4 b.f2.f2.length d4,.slice B5 b.f3.length d5] 46:=⟨_,rfl⟩
     have HBe:=Lib.hid (below_alloc HS.out O)
     have hcc2:=cellO hcc O
     have HK3:=Lib.hid (blk_new wr O)
     rw [hO] at HBe HK3 hcc2
     clear hO hhd hcl
     go_upto_region 14 with (fail)
     go_cut [78] (fun v wx=>v = .bool ((decide (i = 0) && decide (0 < b.f3.length)) || (decide (b.f3.length ≠ L.length))) ∧ Hid (Below wq.heap.size wq wx) ∧ Hid (wx.heap[wr.heap.size]? = some (.cells #[.slice B0 b.f0.length d0,.slice B1 b.f1.length d1,.int .i64 b.f2.f0,.int .i64 b.f2.f1,.slice B4 b.f2.f2.length d4,.slice B5 b.f3.length d5] 46 (0,0))))
     case first=>
      have hz1:((i:Int) == 0) = decide (i = 0):=by by_cases h:i = 0 <;> simp [h]
      have hq:decide (b.f3.length > 0) = decide (0 < b.f3.length):=rfl
      by_cases h1:i = 0
      ·by_cases h2:0 < b.f3.length
       ·have g1:((i:Int) == 0) = true:=by simp [h1]
        have g2:decide (b.f3.length > 0) = true:=by simpa using h2
        have g3:((decide (i = 0) && decide (0 < b.f3.length)) || (decide (b.f3.length ≠ L.length))) = true:=by simp [h1,h2]
        clear hz1 hq
        go_quiet (fail)
        go_wp2
        go_meet
        exact ⟨by rw [g3],by first | exact HBe | exact Lib.hid (pw_below_drewN HBe.out _),by exact HK3⟩
       ·have g1:((i:Int) == 0) = true:=by simp [h1]
        have g2:decide (b.f3.length > 0) = false:=by simpa using h2
        have g3:decide (0 < b.f3.length) = false:=by simpa using h2
        clear hz1 hq g2 g3
        clear q0 q1 q2 q3 q4 q5 hcc R5 HPB HST HNX l5 m5
        generalize b.f3.length = nb at *
        obtain rfl:nb = 0:=by omega
        have H1:=Lib.hid h1
        clear h2 h1
        go_quiet (fail)
        go_wp2
        go_meet
        exact ⟨by simp [H1.out];try (by_cases hh:0 = L.length <;> simp [hh] <;> omega),by first | exact HBe | exact Lib.hid (pw_below_drewN HBe.out _),by exact HK3⟩
      ·have g1:((i:Int) == 0) = false:=by simp [h1]
       clear hz1 hq
       go_quiet (fail)
       go_wp2
       go_meet
       exact ⟨by simp [h1];by_cases hh:b.f3.length = L.length <;> simp [hh] <;> omega,by first | exact HBe | exact Lib.hid (pw_below_drewN HBe.out _),by exact HK3⟩
     case rest=>
      obtain ⟨rfl,HBc,HKc⟩:=hcut
      have c5:wc.cell? ⟨wr.heap.size,5,none⟩ = some (.slice B5 b.f3.length d5):=(blk_cell HKc.out 5).trans rfl
      clear hcc hcc2 q0 q1 q2 q3 q4 q5 HBe HK3
      by_cases hbad:((decide (i = 0) && decide (0 < b.f3.length)) || (decide (b.f3.length ≠ L.length))) = true
      ·have hRR:Hid (RR = 91):=Lib.hid (HST.out (by
        rw [HPB.out]
        simp only [Bool.or_eq_true,Bool.and_eq_true,decide_eq_true_eq] at hbad
        rcases hbad with ⟨z1,z2⟩ | z3
        ·simp [z1,z2]
        ·have:(b.f3 == L) = false:=by
          rw [beq_eq_false_iff_ne]
          intro e;exact z3 (by rw [e])
         simp [this]))
       rw [hbad]
       go_wp2
       go_ret
       exact ⟨ret_i (by rw [HRR.out,hRR.out]),below_then HB1.out HB1.out.size HBc.out⟩
      ·have hb2:((decide (i = 0) && decide (0 < b.f3.length)) || (decide (b.f3.length ≠ L.length))) = false:=by simpa using hbad
       rw [hb2]
       have hlen:b.f3.length = L.length:=by
        simp only [Bool.or_eq_false_iff,decide_eq_false_iff_not,Classical.not_not] at hb2
        exact hb2.2
       have HP0:Hid (predB f i b = (b.f3.drop 0 == L.drop 0)):=Lib.hid (by
        rw [HPB.out]
        simp only [Bool.or_eq_false_iff] at hb2
        have h3:=hb2.1
        by_cases h4:i = 0 <;> simp [h4] at h3 ⊢
        simp [h3])
       have HLEN:=Lib.hid hlen
       have E3:=Lib.hid e3
       have ml:=e3.2.1
       clear hbad hb2 e3
       have HI4:=HI
       have HBc4:=HBc
       rw [hlen] at c5
       generalize gk = gk1 at *
       go_wp2
       go_loopg [10,11,82] (L.length) (fun k _ _ v wr=>∃ j:Nat,j ≤ L.length ∧ v = .int .i64 j ∧ Hid (j + k = L.length) ∧ Hid (predB f i b = (b.f3.drop j == L.drop j)) ∧ Hid (Below wq.heap.size wq wr))
       case atStart=>exact ⟨0,by omega,rfl,Lib.hid (by omega),HP0,HBc4⟩
       case round=>
        obtain ⟨j,hj,rfl,HJ,HP,HS4⟩:=hrel
        by_cases hlt4:j < L.length
        ·obtain ⟨ad5,hA5,hcell5⟩:=int_at (i:=j) (Kd.C_below R5.out (below_then HB1.out HB1.out.size HS4.out)) (by have:=HLEN.out;omega)
         obtain ⟨ad6,hA6,hcell6⟩:=int_at (Kd.C_below E3.out HS4.out) hlt4
         obtain rfl:=hA5
         obtain rfl:=hA6
         have hcq:=cellB HS4.out HCQ.out
         have hlb:j < b.f3.length:=by have:=HLEN.out;omega
         have HD:Hid (predB f i b = (b.f3.getD j 0 == L.getD j 0 && b.f3.drop (j + 1) == L.drop (j + 1))):=Lib.hid (by
          rw [HP.out,List.drop_eq_getElem_cons hlb,List.drop_eq_getElem_cons hlt4,List.cons_beq_cons]
          have z1:b.f3.getD j 0 = b.f3[j]:=by simp [List.getD_eq_getElem?_getD,hlb]
          have z2:L.getD j 0 = L[j]:=by simp [List.getD_eq_getElem?_getD,hlt4]
          rw [z1,z2])
         clear hlb
         generalize b.f3.getD j 0 = x at *
         generalize L.getD j 0 = y at *
         by_cases hxy:x = y
         ·subst hxy
          go_wp2
          go_roundg (gk - 1)
          case measure=>have:=HJ.out;omega
          case rel=>exact ⟨j + 1,by omega,by go_num,Lib.hid (by have:=HJ.out;omega),Lib.hid (by rw [HD.out];simp),HS4⟩
         ·have hR9:Hid (RR = 91):=Lib.hid (HST.out (by rw [HD.out];simp [hxy]))
          go_wp2
          go_ret
          exact ⟨ret_i (by rw [HRR.out,hR9.out]),below_then HB1.out HB1.out.size HS4.out⟩
        ·have hT:predB f i b = true:=by
          have:=HLEN.out
          rw [HP.out,List.drop_eq_nil_of_le (by omega),List.drop_eq_nil_of_le (by omega)];rfl
         have HN4:=Lib.hid (HNX.out hT)
         clear hT
         go_wp2
         go_roundg (gk1 - 1)
         case measure=>have:=HI4.out;omega
         case rel=>exact ⟨i + 1,by omega,by go_num,Lib.hid (by have:=HI4.out;omega),HN4,HS4⟩
    ·go_wp2
     go_ret
     refine ⟨ret_i ?_,below_then HB1.out HB1.out.size HS.out⟩
     rw [HRR.out,HR.out,List.drop_eq_nil_of_le (by omega),predsB];rfl
end Go.Proofs.Ytgbeliajhccndaa
end
section
set_option linter.unusedVariables false
set_option linter.unusedSimpArgs false
namespace Go.Proofs.Ytgbeliajhccndaa
def placeF:List Int → Nat → List Int → List Int
 | P,_,[]=>P
 | P,i,b :: r=>placeF (P.set b.toNat (i:Int)) (i + 1) r
def predsF (ts:List (List Int)):List (List Int) → List Int → List (List Int)
 | rs,[]=>rs
 | rs,b :: r=>predsF ts (addAll b rs (ts.getD b.toNat [])) r
def passF (P:List Int) (rs:List (List Int)) (K:Nat):List Int → Bool → List Int → Option (List Int × Bool)
 | T,ch,[]=>some (T,ch)
 | T,ch,b :: r=>match metF T P K (-1) (rs.getD b.toNat []) with
   | some m=>if m = T.getD b.toNat 0 then passF P rs K T ch r else passF P rs K (T.set b.toNat m) true r
   | none=>none
def treeF (P:List Int) (rs:List (List Int)) (K:Nat) (line:List Int):Nat → List Int → Option (List Int)
 | 0,_=>none
 | k + 1,T=>match passF P rs K T false line with
   | some (T2,true)=>treeF P rs K line k T2
   | some (T2,false)=>some T2
   | none=>none
def treeOf (ts:List (List Int)) (K:Nat):Option (List Int):=
 (lineOf ts K).bind fun line=>(treeF (placeF (List.replicate ts.length 0) 0 line) (predsF ts (List.replicate ts.length []) line) K line.tail K ((List.replicate ts.length (-1)).set 0 0)).map fun T=>T.set 0 (-1)
end Go.Proofs.Ytgbeliajhccndaa
end
section
set_option linter.unusedVariables false
set_option linter.unusedSimpArgs false
namespace Go.Proofs.Ytgbeliajhccndaa
def Ed (ts:List (List Int)) (x y:Int):Prop:=y ∈ ts.getD x.toNat []
def WayK (ts:List (List Int)) (out:Int):Nat → Int → Prop
 | 0,x=>x = 0 ∧ (0:Int) ≠ out
 | k + 1,x=>(x = 0 ∧ (0:Int) ≠ out) ∨ ∃ p,WayK ts out k p ∧ Ed ts p x ∧ x ≠ out
def Way (ts:List (List Int)) (out x:Int):Prop:=∃ k,WayK ts out k x
section
variable {ts:List (List Int)}
theorem WayK.zero {out:Int} (h:(0:Int) ≠ out):∀ k,WayK ts out k 0
 | 0=>⟨rfl,h⟩
 | k + 1=>.inl ⟨rfl,h⟩
theorem WayK.up {out:Int}:∀ {k x},WayK ts out k x → WayK ts out (k + 1) x
 | 0,x,h=>.inl h
 | k + 1,x,.inl h=>.inl h
 | k + 1,x,.inr ⟨p,hp,he,hx⟩=>.inr ⟨p,hp.up,he,hx⟩
theorem WayK.le {out x:Int} {k:Nat} (h:WayK ts out k x):∀ {m},k ≤ m → WayK ts out m x:=by
 intro m hm
 induction m with
 | zero=>have:k = 0:=by omega
         subst this;exact h
 | succ m ih=>
   by_cases e:k = m + 1
   ·subst e;exact h
   ·exact (ih (by omega)).up
theorem WayK.ne {out x:Int}:∀ {k},WayK ts out k x → x ≠ out
 | 0,h=>by obtain ⟨rfl,h⟩:=h;exact h
 | k + 1,.inl h=>by obtain ⟨rfl,h⟩:=h;exact h
 | k + 1,.inr ⟨p,_,_,hx⟩=>hx
theorem WayK.step {out p x:Int} {k:Nat} (h:WayK ts out k p) (he:Ed ts p x) (hx:x ≠ out):WayK ts out (k + 1) x:=.inr ⟨p,h,he,hx⟩
theorem Way.step {out p x:Int} (h:Way ts out p) (he:Ed ts p x) (hx:x ≠ out):Way ts out x:=by
 obtain ⟨k,h⟩:=h;exact ⟨k + 1,h.step he hx⟩
theorem Way.zero {out:Int} (h:(0:Int) ≠ out):Way ts out 0:=⟨0,WayK.zero h 0⟩
theorem Way.ne {out x:Int} (h:Way ts out x):x ≠ out:=by obtain ⟨k,h⟩:=h;exact h.ne
theorem Way.ind {out:Int} {Q:Int → Prop} (h0:(0:Int) ≠ out → Q 0) (hs:∀ p x,Way ts out p → Q p → Ed ts p x → x ≠ out → Q x) {x:Int} (h:Way ts out x):Q x:=by
 obtain ⟨k,h⟩:=h
 induction k generalizing x with
 | zero=>obtain ⟨rfl,h⟩:=h;exact h0 h
 | succ k ih=>
   rcases h with ⟨rfl,h⟩ | ⟨p,hp,he,hx⟩
   ·exact h0 h
   ·exact hs p x ⟨k,hp⟩ (ih hp) he hx
theorem WayK.split {a y:Int}:∀ {k x},WayK ts a k x → WayK ts y k x ∨ WayK ts a k y
 | 0,x,h=>by
   obtain ⟨rfl,h⟩:=h
   by_cases e:(0:Int) = y
   ·subst e;exact .inr ⟨rfl,h⟩
   ·exact .inl ⟨rfl,e⟩
 | k + 1,x,.inl h=>by
   obtain ⟨rfl,h⟩:=h
   by_cases e:(0:Int) = y
   ·subst e;exact .inr (.inl ⟨rfl,h⟩)
   ·exact .inl (.inl ⟨rfl,e⟩)
 | k + 1,x,.inr ⟨p,hp,he,hx⟩=>by
   rcases hp.split (y:=y) with h | h
   ·by_cases e:x = y
    ·subst e;exact .inr (hp.step he hx)
    ·exact .inl (h.step he e)
   ·exact .inr h.up
def DomK (ts:List (List Int)) (k:Nat) (a x:Int):Prop:=¬ WayK ts a k x
def Dm (ts:List (List Int)) (a x:Int):Prop:=¬ Way ts a x
theorem DomK.refl (k:Nat) (x:Int):DomK ts k x x:=fun h=>h.ne rfl
theorem DomK.trans {k:Nat} {a y x:Int} (h1:DomK ts k a y) (h2:DomK ts k y x):DomK ts k a x:=fun h=>by
 rcases h.split (y:=y) with h | h
 ·exact h2 h
 ·exact h1 h
theorem Dm.all {a x:Int}:Dm ts a x ↔ ∀ k,DomK ts k a x:=⟨fun h k hk=>h ⟨k,hk⟩,fun h ⟨k,hk⟩=>h k hk⟩
theorem Dm.refl (x:Int):Dm ts x x:=fun h=>h.ne rfl
theorem Dm.trans {a y x:Int} (h1:Dm ts a y) (h2:Dm ts y x):Dm ts a x:=Dm.all.2 fun k=>(Dm.all.1 h1 k).trans (Dm.all.1 h2 k)
theorem Dm.zero {a:Int} (h:Dm ts a 0):a = 0:=by
 by_cases e:(0:Int) = a
 ·exact e.symm
 ·exact absurd (Way.zero e) h
theorem Dm.of_zero (x:Int):Dm ts 0 x:=by
 rintro ⟨k,h⟩
 induction k generalizing x with
 | zero=>exact h.2 rfl
 | succ k ih=>
   rcases h with h | ⟨p,hp,_,_⟩
   ·exact h.2 rfl
   ·exact ih p hp
theorem Dm.pred {a p x:Int} (h:Dm ts a x) (hne:a ≠ x) (he:Ed ts p x):Dm ts a p:=fun hp=>h (hp.step he (fun e=>hne e.symm))
theorem Dm.anti {a b:Int} (hr:Way ts (-1) b) (h1:Dm ts a b) (h2:Dm ts b a):a = b:=by
 by_cases hab:a = b
 ·exact hab
 exfalso
 have key:(Way ts a b ∧ Way ts b b) ∨ Way ts a b ∨ Way ts b a:=by
  refine Way.ind (Q:=fun x=>(Way ts a x ∧ Way ts b x) ∨ Way ts a b ∨ Way ts b a) (fun _=>?_) (fun p x _ hp he _=>?_) hr
  ·by_cases e:(0:Int) = a
   ·exact .inr (.inr (e ▸ Way.zero (fun e2=>hab (e.symm.trans e2))))
   ·by_cases e2:(0:Int) = b
    ·exact .inr (.inl (e2 ▸ Way.zero e))
    ·exact .inl ⟨Way.zero e,Way.zero e2⟩
  ·rcases hp with ⟨p1,p2⟩ | hp
   ·by_cases e:x = a
    ·exact .inr (.inr (e ▸ p2.step he (fun e2=>hab (e ▸ e2))))
    ·by_cases e2:x = b
     ·exact .inr (.inl (e2 ▸ p1.step he e))
     ·exact .inl ⟨p1.step he e,p2.step he e2⟩
   ·exact .inr hp
 rcases key with h | h | h
 ·exact h1 h.1
 ·exact h1 h
 ·exact h2 h
end
theorem countP_lt {α:Type} {p q:α → Bool} {l:List α} (h:∀ x,p x = true → q x = true) {y:α} (hy:y ∈ l) (h1:p y = false) (h2:q y = true):l.countP p < l.countP q:=by
 induction l with
 | nil=>cases hy
 | cons a r ih=>
   have hle:r.countP p ≤ r.countP q:=List.countP_mono_left (fun x _ hx=>h x hx)
   rcases List.mem_cons.1 hy with rfl | hy
   ·rw [List.countP_cons,List.countP_cons,h1,h2];simp;omega
   ·have:=ih hy
    rw [List.countP_cons,List.countP_cons]
    by_cases hp:p a = true
    ·rw [hp,h a hp];omega
    ·have hp:p a = false:=by simpa using hp
     rw [hp];simp;omega
open Classical in
theorem way_bound {ts:List (List Int)} {out:Int} (hg:goodB ts = true) {k:Nat} {x:Int} (h:WayK ts out k x):WayK ts out ts.length x:=by
 have hV:∀ k x,WayK ts out k x → 0 ≤ x ∧ x < (ts.length:Int):=by
  intro k
  induction k with
  | zero=>rintro x ⟨rfl,_⟩;unfold goodB at hg;simp only [Bool.and_eq_true,decide_eq_true_eq] at hg;omega
  | succ k ih=>
    rintro x (⟨rfl,_⟩ | ⟨p,hp,he,_⟩)
    ·unfold goodB at hg;simp only [Bool.and_eq_true,decide_eq_true_eq] at hg;omega
    ·have:=ih p hp
     exact inB_iff (goodB_row hg p (by simp [inB];omega) x he)
 by_cases hst:∃ m,m ≤ ts.length ∧ ∀ x,WayK ts out (m + 1) x → WayK ts out m x
 ·obtain ⟨m,hm,hc⟩:=hst
  have hall:∀ j x,WayK ts out j x → WayK ts out m x:=by
   intro j
   induction j with
   | zero=>rintro x h;exact h.le (Nat.zero_le _)
   | succ j ih=>
     rintro x (⟨rfl,h0⟩ | ⟨p,hp,he,hx⟩)
     ·exact WayK.zero h0 m
     ·exact hc x ((ih p hp).step he hx)
  exact (hall k x h).le hm
 ·exfalso
  have hgrow:∀ m,m ≤ ts.length → ∃ x,WayK ts out (m + 1) x ∧ ¬ WayK ts out m x:=by
   intro m hm
   refine Classical.byContradiction fun hc=>hst ⟨m,hm,fun x hx=>?_⟩
   exact Classical.byContradiction fun h2=>hc ⟨x,hx,h2⟩
  have hcount:∀ m,m ≤ ts.length + 1 → m ≤ (List.range ts.length).countP (fun i:Nat=>decide (WayK ts out m (i:Int))):=by
   intro m
   induction m with
   | zero=>intro _;omega
   | succ m ih=>
     intro hm
     have:=ih (by omega)
     obtain ⟨y,hy1,hy2⟩:=hgrow m (by omega)
     have hv:=hV _ _ hy1
     have hy:((y.toNat:Nat):Int) = y:=Int.toNat_of_nonneg hv.1
     have:=countP_lt (l:=List.range ts.length) (p:=fun i:Nat=>decide (WayK ts out m (i:Int))) (q:=fun i:Nat=>decide (WayK ts out (m + 1) (i:Int))) (fun x hx=>by simp at hx ⊢;exact hx.up) (y:=y.toNat) (by simp;omega) (by simp [hy];exact hy2) (by simp [hy];exact hy1)
     omega
  have h1:=hcount (ts.length + 1) (Nat.le_refl _)
  have h2:(List.range ts.length).countP (fun i:Nat=>decide (WayK ts out (ts.length + 1) (i:Int))) ≤ (List.range ts.length).length:=List.countP_le_length
  simp at h2
  omega
theorem Dm.of_n {ts:List (List Int)} (hg:goodB ts = true) {a x:Int} (h:DomK ts ts.length a x):Dm ts a x:=fun ⟨_,hk⟩=>h (way_bound hg hk)
end Go.Proofs.Ytgbeliajhccndaa
end
