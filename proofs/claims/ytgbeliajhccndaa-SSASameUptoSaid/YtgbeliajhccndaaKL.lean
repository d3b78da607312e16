/- Lemmas of this claim (SK,SL,SM,VA). -/
import Derived.Test.YtgbeliajhccndaaKK
import Derived.Test.YtgbeliajhccndaaKF
import Derived.Lib.Hide
section
set_option linter.unusedVariables false
set_option linter.unusedSimpArgs false
namespace Go.Proofs.Ytgbeliajhccndaa
open Go.RowKit Go.Proofs.YtgbeliajhccndaaW.PrintWords Go.Proofs.YtgbeliajhccndaaW.PrintLast Go.Proofs.YtgbeliajhccndaaW.PrintMore PP
structure Hd where
 a:Option Addr
 n:Nat
 c:Nat
def encH (h:Hd):Value:=.slice h.a h.n h.c
theorem encH_one (h:Hd):(encH h).oneCell' = true:=rfl
def kH:Kd Hd:=Kd.scalar encH encH_one
abbrev kR:Kd (List Int):=Kd.slice 3 (Kd.int .i64)
def Rows_ (w:World) (hs:List Hd) (ts:List (List Int)):Prop:=hs.length = ts.length ∧ ∀ (i:Nat) (h:Hd) (t:List Int),hs[i]? = some h → ts[i]? = some t → h.n = t.length ∧ h.n ≤ h.c ∧ (Kd.int .i64).C w h.a t.length t
theorem Rows_.below {w W:World} {hs:List Hd} {ts:List (List Int)} (h:Rows_ w hs ts) (hb:Below w.heap.size w W):Rows_ W hs ts:=
 ⟨h.1,fun i x t h1 h2=>⟨(h.2 i x t h1 h2).1,(h.2 i x t h1 h2).2.1,Kd.C_below (h.2 i x t h1 h2).2.2 hb⟩⟩
theorem Rows_.nil (w:World):Rows_ w [] []:=⟨rfl,fun i x t h=>by simp at h⟩
theorem Rows_.snoc {w:World} {hs:List Hd} {ts:List (List Int)} (h:Rows_ w hs ts) {x:Hd} {t:List Int} (h1:x.n = t.length) (h2:x.n ≤ x.c) (h3:(Kd.int .i64).C w x.a t.length t):Rows_ w (hs ++ [x]) (ts ++ [t]):=by
 refine ⟨by simp [h.1],fun i y u e1 e2=>?_⟩
 by_cases hi:i < hs.length
 ·rw [List.getElem?_append_left hi] at e1
  rw [List.getElem?_append_left (by rw [← h.1];exact hi)] at e2
  exact h.2 i y u e1 e2
 ·rw [List.getElem?_append_right (by omega)] at e1
  rw [List.getElem?_append_right (by rw [← h.1];omega)] at e2
  have:i - hs.length = 0:=by
   cases hq:i - hs.length with
   | zero=>rfl
   | succ n=>rw [hq] at e1;simp at e1
  rw [this] at e1
  rw [← h.1,this] at e2
  simp at e1 e2
  subst e1;subst e2
  exact ⟨h1,h2,h3⟩
theorem rows_C {w:World} {A:Option Addr} {hs:List Hd} {ts:List (List Int)} (hC:kH.C w A hs.length hs) (h:Rows_ w hs ts):kR.C w A ts.length ts:=by
 obtain ⟨_,h2,h3⟩:=hC
 refine ⟨rfl,by rw [← h.1];exact h2,fun hn=>?_⟩
 obtain ⟨ad,e,hc⟩:=h3 (by rw [h.1];exact hn)
 refine ⟨ad,e,fun j t hj=>?_⟩
 have hjl:j < hs.length:=by rw [h.1];exact (List.getElem?_eq_some_iff.1 hj).1
 obtain ⟨c,hcl,hck,hcc⟩:=hc j _ (List.getElem?_eq_getElem hjl)
 obtain ⟨r1,r2,r3⟩:=h.2 j _ t (List.getElem?_eq_getElem hjl) hj
 have hc1:c = [encH hs[j]]:=hck
 refine ⟨c,hcl,⟨hs[j].a,hs[j].c,?_,by rw [← r1];exact r2,r3⟩,hcc⟩
 rw [hc1,encH,r1]
theorem size_alloc' (w:World) (o:Obj):(w.alloc o).heap.size = w.heap.size + 1:=by simp
def waysL (f:S38):List (List Int):=f.f4.map fun b=>b.f2.f2
set_option maxHeartbeats 4000000 in
theorem ways_any (g:Nat) (d:Ck) (v3 v4 v5 v6:Value) (w:World) (h:CkW w g d v3 v4 v5 v6) (hb4:d.f.f4.length ≤ 2000000) :
 Calls Try.prog 37 #[.pointer (some ⟨g,0,none⟩)] w fun e w'=>∃ A c,e = .returned (.slice A (waysL d.f).length c) ∧ (waysL d.f).length ≤ c ∧ kR.C w' A (waysL d.f).length (waysL d.f) ∧ Below w.heap.size w w':=by
 obtain ⟨fs,mn,A,c,p,f,A1,c1,A3,c3,A4,c4⟩:=d
 have hF:FnAt w p f A1 c1 A3 c3 A4 c4:=h.at_
 have hb4':f.f4.length ≤ 2000000:=hb4
 have y2:w.cell? ⟨g,2,none⟩ = some (.pointer (some p)):=h.y2
 have x4:=hF.c4
 have HK:=Lib.hid h
 have HF:=Lib.hid hF
 clear hF hb4 h
 go_enter Try.func37,Try.ntmps37
 go_wp2
 go_loopg [3,14] (f.f4.length) (fun k u v wr=>∃ (i:Nat) (hs:List Hd),i ≤ f.f4.length ∧ v = .int .i64 i ∧ hs.length = i ∧ Hid (i + k = f.f4.length) ∧ Hid (kH.R 34 wr w.heap.size (fun _=>True) u hs) ∧ Hid (Rows_ w hs ((waysL f).take i)) ∧ Hid (Below w.heap.size w wr))
 case atStart=>exact ⟨0,[],by omega,rfl,rfl,Lib.hid (by omega),Lib.hid (Kd.R_nil _ _ _ _ _),Lib.hid (by simpa using Rows_.nil w),Lib.hid (Below.refl _ _)⟩
 case round=>
  clear y2 x4
  obtain ⟨i,hs,hi,rfl,hlen,HI,HR,HW,HB⟩:=hrel
  have HLN:=Lib.hid hlen
  clear hlen
  by_cases hlt:i < f.f4.length
  ·obtain ⟨ad4,B0,d0,B1,d1,B4,d4,B5,d5,hA4,q0,q1,q2,q3,q4,q5,_,_,_,_,l4,r4,_,_⟩:=at_T46 HF.out.r4 (i:Int) (by omega) (by omega)
   obtain rfl:=hA4
   rw [Int.toNat_natCast] at q0 q1 q2 q3 q4 q5
   have q0:=cellB HB.out q0
   have q1:=cellB HB.out q1
   have q2:=cellB HB.out q2
   have q3:=cellB HB.out q3
   have q4:=cellB HB.out q4
   have q5:=cellB HB.out q5
   have HT:Hid ((waysL f).take (i + 1) = (waysL f).take i ++ [(rd_T46 f.f4 (i:Int)).f2.f2]):=Lib.hid (by
    have hl:i < (waysL f).length:=by simpa [waysL] using hlt
    rw [List.take_succ_eq_append_getElem hl];simp [waysL,rd_T46,List.getD_eq_getElem?_getD,hlt])
   have R4:=Lib.hid r4
   clear r4
   generalize rd_T46 f.f4 (i:Int) = b at *
   obtain ⟨O,hO⟩:∃ O:Obj,O = .cells #[.slice B0 b.f0.length d0,.slice B1 b.f1.length d1,.int .i64 b.f2.f0,.int .i64 b.f2.f1,.slice B4 b.f2.f2.length d4,.slice B5 b.f3.length d5] 46:=⟨_,rfl⟩
   have HO:=Lib.hid hO
   clear hO
   go_wp2_with (at_builtin;refine stop_intro ?_)
   unfold Stop
   rw [← HO.out]
   refine Kd.R_append kH (w0:=w) w.heap.size rfl (.tmp 18) (.tmp 22) 73 34 (.slice none 0 0) 24 rfl Try.underlying73 info34 rfl (by decide) (by decide) _ hs ⟨B4,b.f2.f2.length,d4⟩ [.slice B4 b.f2.f2.length d4] (fun _=>True) (fun _=>False) rfl (congrArg (fun n=>Value.slice (some ⟨n,0,none⟩) 1 1) (size_alloc' _ _).symm) rfl (fun _ h=>h.elim) (fun _ _=>trivial) (Kd.R_alloc HR.out O) (below_alloc HB.out O) ?base ?len ?_
   case base=>rw [size_alloc'];have:=HB.out.size;omega
   case len=>have:=HLN.out;omega
   intro v1 w2 hR2 hB2 _ _
   have HR2:=Lib.hid hR2
   have HB2:=Lib.hid hB2
   clear hR2 hB2
   go_wp2
   go_roundg (gk - 1)
   case measure=>have:=HI.out;omega
   case rel=>exact ⟨i + 1,hs ++ [⟨B4,b.f2.f2.length,d4⟩],by omega,by go_num,by have:=HLN.out;simp;omega,Lib.hid (by have:=HI.out;omega),HR2,Lib.hid (by rw [HT.out];exact HW.out.snoc rfl l4 R4.out),HB2⟩
  ·obtain ⟨A',c',hv,hc',hC⟩:=Kd.R_reads HR.out
   go_wp2
   go_ret
   have hil:i = f.f4.length:=by omega
   have hw:(waysL f).take i = waysL f:=List.take_of_length_le (by simp [waysL];omega)
   have HW2:=HW.out
   rw [hw] at HW2
   have hll:hs.length = (waysL f).length:=HW2.1
   exact ⟨A',c',by rw [← hll];exact congrArg Ending.returned hv,by rw [← hll];exact hc',rows_C hC (HW2.below HB.out),HB.out⟩
end Go.Proofs.Ytgbeliajhccndaa
end
section
set_option linter.unusedVariables false
set_option linter.unusedSimpArgs false
namespace Go.Proofs.Ytgbeliajhccndaa
open Go.RowKit Go.Proofs.YtgbeliajhccndaaW.PrintWords Go.Proofs.YtgbeliajhccndaaW.PrintLast Go.Proofs.YtgbeliajhccndaaW.PrintMore PP
theorem bool_at {w:World} {A:Option Addr} {l:List Bool} (h:Kd.bool.C w A l.length l) {i:Nat} (hi:i < l.length):∃ ad,A = some ad ∧ w.cell? (ad.add i) = some (.bool (l.getD i false)):=by
 obtain ⟨ad,hA,hc⟩:=Kd.at_bool h (i:Int) (by omega) (by omega)
 have e0:rdOf false l (i:Int) = l.getD i false:=by simp [rdOf]
 rw [Int.toNat_natCast,e0] at hc
 exact ⟨ad,hA,hc⟩
theorem row_at {w:World} {A:Option Addr} {ts:List (List Int)} (h:kR.C w A ts.length ts) {i:Nat} (hi:i < ts.length):∃ ad A0 c0,A = some ad ∧ w.cell? (ad.add i) = some (.slice A0 (ts.getD i []).length c0) ∧ (ts.getD i []).length ≤ c0 ∧ (Kd.int .i64).C w A0 (ts.getD i []).length (ts.getD i []):=by
 obtain ⟨ad,A0,c0,e,h1,h2,h3⟩:=at_L2 h (i:Int) (by omega) (by omega)
 have e0:rd_L2 ts (i:Int) = ts.getD i []:=by simp [rd_L2]
 rw [e0] at h1 h2 h3
 rw [Int.toNat_natCast] at h1
 exact ⟨ad,A0,c0,e,h1,h2,h3⟩
set_option maxHeartbeats 1000000 in
theorem id_any (b:Bool) (w:World):Calls Try.prog 40 #[.bool b] w fun e w'=>e = .returned (.bool b) ∧ w = w':=by
 go_enter Try.func40,Try.ntmps40
 go_wp2
 go_ret
 exact ⟨rfl,rfl⟩
set_option maxHeartbeats 1000000 in
theorem all_bool (A:Option Addr) (c:Nat) (l:List Bool) (w:World) (hr:Kd.bool.C w A l.length l) :
 Calls Try.prog 38 #[.slice A l.length c,.func (.func 40) #[] #[]] w fun e w'=>e = .returned (.bool (l.all id)) ∧ Below w.heap.size w w':=by
 have HR:=Lib.hid hr
 have hl:=hr.2.1
 clear hr
 go_enter Try.func38,Try.ntmps38
 go_wp2
 go_loopg [9] (l.length) (fun k v wr=>∃ i:Nat,i ≤ l.length ∧ v = .int .i64 i ∧ Hid (i + k = l.length) ∧ Hid (l.all id = (l.drop i).all id) ∧ Hid (Below w.heap.size w wr))
 case atStart=>exact ⟨0,by omega,rfl,Lib.hid (by omega),Lib.hid (by simp),Lib.hid (Below.refl _ _)⟩
 case round=>
  obtain ⟨i,hi,rfl,HI,HP,HB⟩:=hrel
  by_cases hlt:i < l.length
  ·obtain ⟨ad,hA,hcell⟩:=bool_at (Kd.C_below HR.out HB.out) hlt
   obtain rfl:=hA
   have HST:=Lib.hid (all_stop (p:=id) (d:=false) hlt HP.out)
   have HNX:=Lib.hid (all_next (p:=id) (d:=false) hlt HP.out)
   generalize l.getD i false = x at *
   cases x
   ·go_wp2_with (go_at_call 40;refine (id_any _ _).mono ?_;rintro e w' ⟨rfl,rfl⟩)
    go_ret
    exact ⟨ret_bool (by first | exact (HST.out rfl).symm | (have:=HST.out;simp at this;simp [this])),HB.out⟩
   ·go_wp2_with (go_at_call 40;refine (id_any _ _).mono ?_;rintro e w' ⟨rfl,rfl⟩)
    go_roundg (gk - 1)
    case measure=>have:=HI.out;omega
    case rel=>exact ⟨i + 1,by omega,by go_num,Lib.hid (by have:=HI.out;omega),Lib.hid (by first | exact HNX.out rfl | (have:=HNX.out;simpa using this)),HB⟩
  ·go_wp2
   go_ret
   exact ⟨ret_bool (by rw [HP.out,List.drop_eq_nil_of_le (by omega)];rfl),HB.out⟩
theorem inB_no {n:Nat} {x:Int} (h:x < 0 ∨ (n:Int) ≤ x):inB n x = false:=by unfold inB;simp;omega
theorem inB_yes {n:Nat} {x:Int} (h:0 ≤ x ∧ x < (n:Int)):inB n x = true:=by unfold inB;simp;omega
def goodB (ts:List (List Int)):Bool:=ts.all (fun l=>l.all (inB ts.length)) && decide (0 < ts.length)
set_option maxHeartbeats 2000000 in
theorem good_any (A:Option Addr) (c:Nat) (ts:List (List Int)) (w:World) (hr:kR.C w A ts.length ts) :
 Calls Try.prog 66 #[.slice A ts.length c] w fun e w'=>e = .returned (.bool (goodB ts)) ∧ Below w.heap.size w w':=by
 have HR:=Lib.hid hr
 have hm:=hr.2.1
 clear hr
 have HG:Hid (goodB ts = (ts.all (fun l=>l.all (inB ts.length)) && decide (0 < ts.length))):=Lib.hid rfl
 generalize goodB ts = R at *
 obtain ⟨q,hq⟩:∃ q:List Int → Bool,q = fun l=>l.all (inB ts.length):=⟨_,rfl⟩
 rw [← hq] at HG
 have HQ:=Lib.hid hq
 clear hq
 go_enter Try.func66,Try.ntmps66
 go_wp2
 go_loopg [4,9] (ts.length) (fun k _ v wr=>∃ i:Nat,i ≤ ts.length ∧ v = .int .i64 i ∧ Hid (i + k = ts.length) ∧ Hid (ts.all q = (ts.drop i).all q) ∧ Hid (Below w.heap.size w wr))
 case atStart=>exact ⟨0,by omega,rfl,Lib.hid (by omega),Lib.hid (by simp),Lib.hid (Below.refl _ _)⟩
 case round=>
  obtain ⟨i,hi,rfl,HI,HP,HB⟩:=hrel
  by_cases hlt:i < ts.length
  ·obtain ⟨ad,A0,c0,hA,h1,h2,h3⟩:=row_at (Kd.C_below HR.out HB.out) hlt
   obtain rfl:=hA
   have HST:=Lib.hid (all_stop (p:=q) (d:=[]) hlt HP.out)
   have HNX:=Lib.hid (all_next (p:=q) (d:=[]) hlt HP.out)
   have hml:=h3.2.1
   have HRI:=Lib.hid h3
   clear h3
   generalize ts.getD i [] = l at *
   have HL:Hid (q l = l.all (inB ts.length)):=Lib.hid (by rw [HQ.out])
   generalize gk = go at *
   obtain ⟨w0,hw0⟩:∃ w0,w0 = wr:=⟨_,rfl⟩
   have HW0:=Lib.hid hw0
   clear hw0
   go_wp2
   go_loopg [6,15] (l.length) (fun k _ v wr=>∃ j:Nat,j ≤ l.length ∧ v = .int .i64 j ∧ Hid (j + k = l.length) ∧ Hid (l.all (inB ts.length) = (l.drop j).all (inB ts.length)) ∧ Hid (Below w0.heap.size w0 wr))
   case atStart=>exact ⟨0,by omega,rfl,Lib.hid (by omega),Lib.hid (by simp),Lib.hid (by rw [HW0.out];exact Below.refl _ _)⟩
   case round=>
    obtain ⟨j,hj,rfl,HJ,HPJ,HBJ⟩:=hrel
    rw [← HW0.out] at HB HRI
    by_cases hlt2:j < l.length
    ·obtain ⟨ad2,hA2,hc2⟩:=int_at (Kd.C_below HRI.out HBJ.out) hlt2
     obtain rfl:=hA2
     have HST2:=Lib.hid (all_stop (p:=inB ts.length) (d:=0) hlt2 HPJ.out)
     have HNX2:=Lib.hid (all_next (p:=inB ts.length) (d:=0) hlt2 HPJ.out)
     generalize l.getD j 0 = x at *
     go_wp2
     all_goals first
      | (go_ret
         refine ⟨ret_bool ?_,below_then HB.out HB.out.size HBJ.out⟩
         rw [HG.out,HST.out (by rw [HL.out];exact HST2.out (inB_no (by first | assumption | exact .inl ‹x < 0›)))];rfl)
      | (go_roundg (gk - 1)
         case measure=>have:=HJ.out;omega
         case rel=>exact ⟨j + 1,by omega,by go_num,Lib.hid (by have:=HJ.out;omega),Lib.hid (HNX2.out (inB_yes ‹_›)),HBJ⟩)
    ·go_wp2
     go_roundg (go - 1)
     case measure=>have:=HI.out;omega
     case rel=>exact ⟨i + 1,by omega,by go_num,Lib.hid (by have:=HI.out;omega),Lib.hid (HNX.out (by rw [HL.out,HPJ.out,List.drop_eq_nil_of_le (by omega)];rfl)),Lib.hid (below_then HB.out HB.out.size HBJ.out)⟩
  ·go_wp2
   go_ret
   exact ⟨ret_bool (by rw [HG.out,HP.out,List.drop_eq_nil_of_le (by omega)];simp),HB.out⟩
end Go.Proofs.Ytgbeliajhccndaa
end
section
set_option linter.unusedVariables false
set_option linter.unusedSimpArgs false
namespace Go.Proofs.Ytgbeliajhccndaa
open Go.RowKit Go.WideMaps Go.Maps Go.Proofs.YtgbeliajhccndaaW.PrintWords Go.Proofs.YtgbeliajhccndaaW.PrintLast Go.Proofs.YtgbeliajhccndaaW.PrintMore PP
def scanL (m:Int → Int):List Int → Nat → Nat × Option Int
 | [],nx=>(nx,none)
 | c :: r,nx=>if m c = 0 then (nx + 1,some c) else scanL m r (nx + 1)
def lineF (ts:List (List Int)):Nat → (Int → Int) → List (Int × Nat) → List Int → Option (List Int)
 | 0,_,_,_=>none
 | _ + 1,_,[],ds=>some ds
 | k + 1,m,(b,nx) :: st,ds=>
   match scanL m ((ts.getD b.toNat []).drop nx) nx with
   | (nx',some c)=>lineF ts k (updI m c 1) ((c,0) :: (b,nx') :: st) ds
   | (_,none)=>lineF ts k m st (ds ++ [b])
def startM:Int → Int:=updI (fun _=>0) 0 1
def lineOf (ts:List (List Int)) (k:Nat):Option (List Int):=(lineF ts k startM [(0,0)] []).map List.reverse
def visC (l:List (Int × Nat)):List Value:=l.flatMap fun x=>[.int .i64 x.1,.int .i64 (x.2:Int)]
theorem visC_length (l:List (Int × Nat)):(visC l).length = l.length * 2:=by
 induction l with
 | nil=>rfl
 | cons x r ih=>simp only [visC,List.flatMap_cons,List.length_append] at ih ⊢;rw [ih];simp;omega
theorem visC_append (l r:List (Int × Nat)):visC (l ++ r) = visC l ++ visC r:=by simp [visC]
theorem visC_snoc (l:List (Int × Nat)) (b:Int) (n:Nat):visC (l ++ [(b,n)]) = visC l ++ [.int .i64 b,.int .i64 (n:Int)]:=by rw [visC_append];rfl
theorem own_cell {w:World} {base g n cap size:Nat} {e:TypeId} {xs:List Value} (h:w.ownsRow base e size (.slice (some ⟨g,0,none⟩) n cap) n xs) {j:Nat} {u:Value} (hj:xs[j]? = some u) :
 w.cell? ⟨g,j,none⟩ = some u ∧ w.frozen? ⟨g,j,none⟩ = false:=by
 obtain ⟨hl,h2⟩:=h
 rcases h2 with ⟨h2,_⟩ | ⟨g',cap',cur,he,hb,hh,hn,hc,hs,ht⟩
 ·cases h2
 ·have e1:g = g':=by injection he with he;injection he with he;injection he with he
  subst e1
  refine ⟨?_,blk_frozen hh j⟩
  rw [blk_cell hh j]
  rw [← ht] at hj
  have h3:=(List.getElem?_eq_some_iff.1 hj).1
  rw [List.getElem?_take,if_pos (by simp at h3;omega)] at hj
  simpa using hj
theorem own_form {w:World} {base size n:Nat} {e:TypeId} {v:Value} {xs:List Value} (h:w.ownsRow base e size v n xs) (hn:0 < n):∃ g cap,v = .slice (some ⟨g,0,none⟩) n cap ∧ n ≤ cap ∧ base ≤ g ∧ g < w.heap.size ∧ n ≤ 9223372036854775807:=by
 rcases h.2 with ⟨rfl,h0⟩ | ⟨g,cap,cur,rfl,hb,hh,hn2,hc,hs,ht⟩
 ·omega
 ·exact ⟨g,cap,rfl,hn2,hb,blk_lt hh,by unfold maxLen at hc;omega⟩
theorem own_ne_map {w:World} {base size n B nn:Nat} {e:TypeId} {v:Value} {xs:List Value} {m:Int → Int} (h:w.ownsRow base e size v n xs) (hm:MapI w B nn m):v.ownBlock ≠ some B:=by
 intro hk
 obtain ⟨cells,hc⟩:=own_typed h B hk
 obtain ⟨D,⟨es,ck,hb,_⟩,_⟩:=hm
 rw [hb] at hc
 cases hc
theorem vis_put {w:World} {base g cap:Nat} {l:List (Int × Nat)} {b:Int} {n:Nat} (h:w.ownsRow base 116 2 (.slice (some ⟨g,0,none⟩) (l.length + 1) cap) (l.length + 1) (visC (l ++ [(b,n)]))) (n':Nat) :
 (w.setCell ⟨g,l.length * 2 + 1,none⟩ (.int .i64 (n':Int))).ownsRow base 116 2 (.slice (some ⟨g,0,none⟩) (l.length + 1) cap) (l.length + 1) (visC (l ++ [(b,n')])) ∧ w.grownBy (w.setCell ⟨g,l.length * 2 + 1,none⟩ (.int .i64 (n':Int))) (some g):=by
 have hs:=h.stored (l.length * 2 + 1) (.int .i64 (n':Int))
 have he:(visC (l ++ [(b,n)])).set (l.length * 2 + 1) (.int .i64 (n':Int)) = visC (l ++ [(b,n')]):=by
  rw [visC_snoc,visC_snoc,List.set_append_right _ _ (by rw [visC_length];omega),visC_length]
  simp
 rwa [he] at hs
theorem vis_top {w:World} {base g cap:Nat} {l:List (Int × Nat)} {b:Int} {n:Nat} (h:w.ownsRow base 116 2 (.slice (some ⟨g,0,none⟩) (l.length + 1) cap) (l.length + 1) (visC (l ++ [(b,n)]))) :
 w.cell? ⟨g,l.length * 2,none⟩ = some (.int .i64 b) ∧ w.cell? ⟨g,l.length * 2 + 1,none⟩ = some (.int .i64 (n:Int)) ∧ w.frozen? ⟨g,l.length * 2 + 1,none⟩ = false:=by
 have h1:=own_cell h (j:=l.length * 2) (u:=.int .i64 b) (by rw [visC_snoc,List.getElem?_append_right (by rw [visC_length];omega),visC_length];simp)
 have h2:=own_cell h (j:=l.length * 2 + 1) (u:=.int .i64 (n:Int)) (by rw [visC_snoc,List.getElem?_append_right (by rw [visC_length];omega),visC_length];simp)
 exact ⟨h1.1,h2.1,h2.2⟩
theorem goodB_row {ts:List (List Int)} (h:goodB ts = true) (b:Int) (hb:inB ts.length b = true):∀ x ∈ ts.getD b.toNat [],inB ts.length x = true:=by
 unfold goodB at h
 rw [Bool.and_eq_true] at h
 have hb':=inB_iff hb
 have hm:ts.getD b.toNat [] ∈ ts:=mem_getD [] (by omega)
 exact fun x hx=>List.all_eq_true.1 (List.all_eq_true.1 h.1 _ hm) x hx
theorem below_at {w w1 w2:World} {B:Nat} (h:Below w.heap.size w w1) (hB:w.heap.size ≤ B) (hg:w1.grownBy w2 (some B)):Below w.heap.size w w2:=
 h.grown hg h.size (fun k hk=>by cases hk;exact hB)
theorem info116:(Try.prog.info? 116).map (fun i=>(i.zero,i.size,i.bytes)) = some (some (.agg #[.int .i64 0,.int .i64 0]),2,16):=by kernel_rfl
theorem MapI.ins {w:World} {B n:Nat} {mi:Int → Int} {o:Oper} {rest:List Oper} {ops:Array Oper} {a:Act} {Q:Exit → Act → World → Prop} (hg:o.guard = none) (x1 x2 x3:Operand) (hop:o.op = Op.insert 114 x1 x2 x3)
 (h:MapI w B n mi) (hn:n < maxLen) (s:Int) (v:Int) (hm:a.eval x1 = .map (some B)) (hx:a.eval x2 = .int .i64 s) (hv:a.eval x3 = .int .i64 v) (hs:(Lit.int .i64 s).wf = true) (hw:(Lit.int .i64 v).wf = true)
 (hK:∀ w',MapI w' B (n + 1) (updI mi s v) → w.grownBy w' (some B) → wpList Try.prog ops Q rest (a.put o.dst undef) w'):wpList Try.prog ops Q (o :: rest) a w:=by
 obtain ⟨D,h1,h2,h3⟩:=h
 have hkey:keyOf Try.prog 3 (.int .i64 s) = some (.int .i64 s):=keyOf_int_mk Try.underlying3 hs
 have hval:plainElem Try.prog 3 (.int .i64 v) = some ((DataW.lit (.int .i64 v):DataW Unit),[]):=plainElem_int Try.underlying3 hw
 refine wpList_plain hg fun K' hK'=>?_
 obtain ⟨w',hrun,r1,r2⟩:=World.ownsMap.update (t:=114) (e:=3) h1 lawI Try.underlying114 hn hkey hval
 unfold Oper.wp
 simp [execOp,hop,hm,hx,hv,hrun,Result.andThen]
 refine hK' _ _ (hK w' ⟨_,r1,h2.put _ _,fun t ht=>?_⟩ r2)
 unfold updI
 by_cases e:t = s
 ·rw [if_pos e,e];exact atKey_put_same (k:=.int .i64 s) h2 trivial _ _
 ·rw [if_neg e,atKey_put_other (fun k=>e (by injection k))];exact h3 t ht
set_option maxRecDepth 100000 in
set_option maxHeartbeats 8000000 in
theorem lined_any (A:Option Addr) (c:Nat) (ts:List (List Int)) (K:Nat) (r:List Int) (w:World) (hr:kR.C w A ts.length ts) (hg:goodB ts = true) (hts:ts.length ≤ 2000000) (hK:K ≤ 10000000) (h:lineOf ts K = some r) :
 Calls Try.prog 67 #[.slice A ts.length c] w fun e w'=>∃ v,e = .returned v ∧ w'.ownsRow w.heap.size 3 1 v r.length (nums .i64 r) ∧ Below w.heap.size w w':=by
 have hmm:=@run_makeMap Try.prog
 have HR:=Lib.hid hr
 have HG:=Lib.hid hg
 have HT:=Lib.hid hts
 have HK:=Lib.hid hK
 clear hr hg hts hK
 go_enter Try.func67,Try.ntmps67
 go_wp2
 go_step3
 go_wp2_with (with_reducible refine MapI.ins rfl _ _ _ rfl (MapI.new w) (by unfold maxLen;omega) 0 1 rfl rfl rfl (wf64 (by omega) (by omega)) (wf64 (by omega) (by omega)) ?_;intro w1 hM1 hg1;have HM1:=Lib.hid hM1;have HB1:Hid (Below w.heap.size w w1):=Lib.hid ((below_alloc (Below.refl _ _) _).grown hg1 (by simp) (fun k hk=>by cases hk;omega));clear hM1 hg1)
 go_step3
 go_wp2
 clear hmm
 obtain ⟨r0,hr0,hrr⟩:∃ r0,lineF ts K startM [(0,0)] [] = some r0 ∧ r = r0.reverse:=by
  unfold lineOf at h
  cases hq:lineF ts K startM [(0,0)] [] with
  | none=>rw [hq] at h;cases h
  | some r0=>rw [hq] at h;exact ⟨r0,rfl,by injection h with h;exact h.symm⟩
 have HH:=Lib.hid hr0
 have HRR:=Lib.hid hrr
 clear h hr0 hrr
 go_loopg [4,5,6,7] K (fun k u4 u5 _ _ wr=>∃ (nn:Nat) (m:Int → Int) (st:List (Int × Nat)) (ds:List Int),Hid (lineF ts k m st ds = some r0) ∧ Hid (MapI wr w.heap.size nn m) ∧ Hid (wr.ownsRow w.heap.size 116 2 u4 st.length (visC st.reverse)) ∧ Hid (wr.ownsRow w.heap.size 3 1 u5 ds.length (nums .i64 ds)) ∧ Hid (Below w.heap.size w wr) ∧ Hid (nn + k ≤ K + 1 ∧ st.length + k ≤ K + 1 ∧ ds.length + k ≤ K) ∧ Hid (∀ x ∈ st,inB ts.length x.1 = true))
 case atStart=>
  refine ⟨1,startM,[(0,0)],[],HH,Lib.hid (HM1.out.below (below_alloc (Below.refl _ _) _)),Lib.hid ?_,Lib.hid (own_nil _ _ _ _),Lib.hid (below_alloc HB1.out _),Lib.hid (by simp;omega),Lib.hid ?_⟩
  ·have h:=World.ownsRow_lit (base:=w.heap.size) (e:=116) (size:=2) w1 #[.int .i64 0,.int .i64 0] 1 HB1.out.size (by unfold maxLen;omega) (by simp)
   simpa [visC] using h
  ·intro x hx
   simp at hx
   subst hx
   have:=HG.out
   unfold goodB at this
   rw [Bool.and_eq_true] at this
   have h2:=this.2
   simp at h2
   simp [inB];omega
 case round=>
  obtain ⟨nn,m,st,ds,HL,HM,HV,HD,HB,HC,HI⟩:=hrel
  match st,HL,HV,HC,HI with
  | [],HL,HV,HC,HI=>
    have hdr:ds = r0:=by
     have:=HL.out
     cases gk with
     | zero=>simp [lineF] at this
     | succ k1=>rw [lineF] at this;injection this
    obtain ⟨c4,hu4⟩:∃ c4,u4 = .slice c4 0 0 ∨ ∃ g cap,u4 = .slice (some ⟨g,0,none⟩) 0 cap:=by
     rcases HV.out.2 with ⟨h,_⟩ | ⟨g,cap,_,h,_⟩
     ·exact ⟨none,.inl h⟩
     ·exact ⟨none,.inr ⟨g,cap,h⟩⟩
    have hlen4:∃ A4 cp4,u4 = .slice A4 0 cp4:=by
     rcases hu4 with rfl | ⟨g,cap,rfl⟩
     ·exact ⟨_,_,rfl⟩
     ·exact ⟨_,_,rfl⟩
    obtain ⟨A4,cp4,rfl⟩:=hlen4
    clear hu4
    obtain ⟨A5,cp5,hu5,hn5⟩:∃ A5 cp5,u5 = .slice A5 ds.length cp5 ∧ ds.length ≤ 9223372036854775807:=by
     rcases HD.out.2 with ⟨h,h0⟩ | ⟨g,cap,_,h,_,_,h1,h2,_⟩
     ·exact ⟨_,_,by rw [h0];exact h,by omega⟩
     ·exact ⟨_,_,h,by unfold maxLen at h2;omega⟩
    obtain rfl:=hu5
    have hrl:r.length = ds.length:=by rw [HRR.out,← hdr];simp
    have HRL:=Lib.hid hrl
    have HDR:=Lib.hid hdr
    clear hdr hrl HM HL HV HC HI
    go_wp2
    go_loopg [8,9] (ds.length) (fun k v8 v9 wr=>∃ (i:Nat) (xs:List Int),v8 = .int .i64 i ∧ v9 = .int .i64 ((ds.length:Int) - 1 - i) ∧ i ≤ ds.length ∧ Hid (i + k = ds.length) ∧ Hid (xs.length = ds.length ∧ ∀ q,q < ds.length → xs.getD q 0 = if q < i ∨ ds.length < q + 1 + i then ds.getD (ds.length - 1 - q) 0 else ds.getD q 0) ∧ Hid (wr.ownsRow w.heap.size 3 1 (.slice A5 ds.length cp5) ds.length (nums .i64 xs)) ∧ Hid (Below w.heap.size w wr))
    case atStart=>exact ⟨0,ds,rfl,by simp,by omega,Lib.hid (by omega),Lib.hid ⟨rfl,fun q hq=>by rw [if_neg (by omega)]⟩,HD,HB⟩
    case round=>
     clear HD HB
     obtain ⟨i,xs,rfl,rfl,hi,HG3,HX,HD,HB⟩:=hrel
     by_cases hlt:(i:Int) < (ds.length:Int) - 1 - i
     ·obtain ⟨g,cap,hu,_,hbg,hlg,_⟩:=own_form HD.out (by omega)
      injection hu with e1 e2 e3
      subst e1;subst e3
      have hxl:=HX.out.1
      have hD2:=HD.out
      rw [← hxl] at hD2
      obtain ⟨j,hj⟩:∃ j:Nat,(ds.length:Int) - 1 - i = (j:Int):=⟨ds.length - 1 - i,by omega⟩
      have ci:=own_at HD.out (i:Int) (by omega) (by omega)
      have cj:=own_at HD.out (j:Int) (by omega) (by omega)
      rw [Int.toNat_natCast] at ci cj
      obtain ⟨ci,fi⟩:=ci
      obtain ⟨cj,fj⟩:=cj
      have hij:i < j:=by omega
      have hjn:j < ds.length:=by omega
      have HJ:=Lib.hid hj
      rw [hj]
      clear hj hlt hD2 hxl
      generalize hxi:rd xs (i:Int) = xi at *
      generalize hxj:rd xs (j:Int) = xj at *
      have HXI:=Lib.hid hxi
      have HXJ:=Lib.hid hxj
      clear hxi hxj
      go_wp2
      go_region
      go_wp2
      go_roundg (gk - 1)
      case measure=>have:=HG3.out;omega
      case rel=>
       have s1:=own_store HD.out (i:Int) xj
       rw [Int.toNat_natCast] at s1
       have s2:=own_store s1.1 (j:Int) xi
       rw [Int.toNat_natCast] at s2
       refine ⟨i + 1,(xs.set i xj).set j xi,by go_num,congrArg (Value.int .i64) (by have:=HJ.out;omega),by omega,Lib.hid (by have:=HG3.out;omega),Lib.hid ⟨by simp [HX.out.1],fun q hq=>?_⟩,Lib.hid (pw_own_below s2.1 (below_drew (Below.refl _ _))),Lib.hid (below_drew (below_set (below_set HB.out hbg) hbg))⟩
       have hx:=HX.out.2
       have hxl:=HX.out.1
       have hjj:=HJ.out
       by_cases e1:q = j
       ·subst e1
        rw [if_pos (by omega)]
        have e:((xs.set i xj).set q xi).getD q 0 = xi:=by simp [List.getD_eq_getElem?_getD,hxl,hq]
        rw [e,← HXI.out]
        have h6:=hx i (by omega)
        rw [if_neg (by omega)] at h6
        have e2:rd xs (i:Int) = xs.getD i 0:=by simp [YtgbeliajhccndaaW.PrintWords.rd]
        rw [e2,h6]
        congr 1;omega
       ·by_cases e2:q = i
        ·subst e2
         rw [if_pos (by omega)]
         have e:((xs.set q xj).set j xi).getD q 0 = xj:=by simp [List.getD_eq_getElem?_getD,hxl,hq,Ne.symm e1]
         rw [e,← HXJ.out]
         have h6:=hx j (by omega)
         rw [if_neg (by omega)] at h6
         have e2:YtgbeliajhccndaaW.PrintWords.rd xs (j:Int) = xs.getD j 0:=by simp [YtgbeliajhccndaaW.PrintWords.rd]
         rw [e2,h6]
         congr 1;omega
        ·have e:((xs.set i xj).set j xi).getD q 0 = xs.getD q 0:=by simp [List.getD_eq_getElem?_getD,List.getElem?_set_ne (Ne.symm e1),List.getElem?_set_ne (Ne.symm e2)]
         rw [e,hx q hq]
         by_cases e3:q < i ∨ ds.length < q + 1 + i
         ·rw [if_pos e3,if_pos (by omega)]
         ·rw [if_neg e3,if_neg (by omega)]
     ·go_wp2
      try rw [Exit.noGoto_ret]
      go_ret
      have hxr:xs = r:=by
       rw [HRR.out,← HDR.out]
       have hx:=HX.out.2
       have hxl:=HX.out.1
       refine List.ext_getElem? (fun q=>?_)
       by_cases hq:q < ds.length
       ·have h6:=hx q hq
        have e1:xs[q]? = some (xs.getD q 0):=by simp [List.getD_eq_getElem?_getD,hxl,hq]
        have e2:ds.reverse[q]? = some (ds.getD (ds.length - 1 - q) 0):=by
         rw [List.getElem?_reverse hq]
         have:ds.length - 1 - q < ds.length:=by omega
         simp [List.getD_eq_getElem?_getD,this]
        rw [e1,e2,h6]
        by_cases e3:q < i ∨ ds.length < q + 1 + i
        ·rw [if_pos e3]
        ·rw [if_neg e3]
         have:ds.length - 1 - q = q:=by omega
         rw [this]
       ·rw [List.getElem?_eq_none (by omega),List.getElem?_eq_none (by simp;omega)]
      refine ⟨_,rfl,?_,HB.out⟩
      rw [HRL.out,← hxr]
      exact HD.out
  | (b,nx) :: st,HL,HV,HC,HI=>
    obtain ⟨l,hl⟩:∃ l,l = st.reverse:=⟨_,rfl⟩
    have hll:st.length = l.length:=by rw [hl];simp
    have HV1:=HV.out
    rw [List.reverse_cons,← hl,List.length_cons,hll] at HV1
    obtain ⟨gv,cap,hu4,hcap,hbv,hlv,hnv⟩:=own_form HV1 (by omega)
    obtain rfl:=hu4
    have HLL:=Lib.hid hl
    have HLN:=Lib.hid hll
    clear hl hll HV
    have HV:=Lib.hid HV1
    clear HV1
    have hib:inB ts.length b = true:=HI.out (b,nx) (by simp)
    have HIB:=Lib.hid hib
    obtain ⟨b0,b1⟩:=inB_iff hib
    obtain ⟨ad,A0,c0,hA,h1,h2,h3⟩:=at_L2 HR.out b b0 b1
    obtain rfl:=hA
    have hm0:=HR.out.2.1
    have hmb:=h3.2.1
    have hrb:rd_L2 ts b = ts.getD b.toNat []:=rfl
    have HGB:=Lib.hid (goodB_row HG.out b hib)
    rw [hrb] at h1 h2 h3 hmb
    clear hib hrb
    have HRB:=Lib.hid h3
    have HCB:=Lib.hid h2
    clear h3 h2
    obtain ⟨nx2,fo,hS⟩:∃ nx2 fo,scanL m ((ts.getD b.toNat []).drop nx) nx = (nx2,fo):=⟨_,_,rfl⟩
    have HS:=Lib.hid hS
    clear hS
    obtain ⟨k1,hk1⟩:∃ k1,gk = k1 + 1:=by
     cases gk with
     | zero=>have:=HL.out;simp [lineF] at this
     | succ k1=>exact ⟨k1,rfl⟩
    have HK1:=Lib.hid hk1
    have HL2:Hid ((match (nx2,fo) with | (nx',some c)=>lineF ts k1 (updI m c 1) ((c,0) :: (b,nx') :: st) ds | (_,none)=>lineF ts k1 m st (ds ++ [b])) = some r0):=Lib.hid (by
     have:=HL.out
     rw [hk1,lineF,HS.out] at this
     exact this)
    clear HL hk1
    generalize ts.getD b.toNat [] = bt at *
    generalize gk = go at *
    go_wp2
    go_loopg [4,7] (bt.length + 1) (fun k v4 _ wr2=>∃ nx':Nat,v4 = .slice (some ⟨gv,0,none⟩) (l.length + 1) cap ∧ Hid (bt.length < nx' + k) ∧ Hid (scanL m (bt.drop nx') nx' = (nx2,fo)) ∧ Hid (wr2.ownsRow w.heap.size 116 2 (.slice (some ⟨gv,0,none⟩) (l.length + 1) cap) (l.length + 1) (visC (l ++ [(b,nx')]))) ∧ Hid (MapI wr2 w.heap.size nn m) ∧ Hid (wr2.ownsRow w.heap.size 3 1 u5 ds.length (nums .i64 ds)) ∧ Hid (Below w.heap.size w wr2))
    case atStart=>exact ⟨nx,rfl,Lib.hid (by omega),HS,HV,HM,HD,HB⟩
    case round=>
     clear HV HM HD HB
     obtain ⟨ny,rfl,HN,HS,HV,HM,HD,HB⟩:=hrel
     have h1:=cellB HB.out h1
     obtain ⟨z0,z1,z2⟩:=vis_top HV.out
     by_cases hlt:ny < bt.length
     ·obtain ⟨ad2,hA2,h4⟩:=int_at (Kd.C_below HRB.out HB.out) hlt
      obtain rfl:=hA2
      have hcx:=HGB.out _ (mem_getD 0 hlt)
      have HS2:Hid ((if m (bt.getD ny 0) = 0 then (ny + 1,some (bt.getD ny 0)) else scanL m (bt.drop (ny + 1)) (ny + 1)) = (nx2,fo)):=Lib.hid (by
       have:=HS.out
       rw [List.drop_eq_getElem_cons hlt,scanL] at this
       simpa [List.getD_eq_getElem?_getD,hlt] using this)
      generalize bt.getD ny 0 = x at *
      obtain ⟨x0,x1⟩:=inB_iff hcx
      have hxw:(Lit.int .i64 x).wf = true:=wf64 (by omega) (by have:=HT.out;omega)
      have hgne:gv ≠ w.heap.size:=fun e=>own_ne_map HV.out HM.out (by simp [Value.ownBlock,e])
      have HP:Hid (∀ n,((wr.drewN n).setCell ⟨gv,l.length * 2 + 1,none⟩ (.int .i64 ((ny + 1:Nat):Int))).ownsRow w.heap.size 116 2 (.slice (some ⟨gv,0,none⟩) (l.length + 1) cap) (l.length + 1) (visC (l ++ [(b,ny + 1)])) ∧ (wr.drewN n).grownBy ((wr.drewN n).setCell ⟨gv,l.length * 2 + 1,none⟩ (.int .i64 ((ny + 1:Nat):Int))) (some gv)):=Lib.hid (fun n=>vis_put (pw_own_below HV.out (pw_below_drewN (Below.refl _ _) n)) (ny + 1))
      have HMS:Hid (∀ n,MapI ((wr.drewN n).setCell ⟨gv,l.length * 2 + 1,none⟩ (.int .i64 ((ny + 1:Nat):Int))) w.heap.size nn m):=Lib.hid (fun n=>(HM.out.below (pw_below_drewN (Below.refl _ _) n)).kept (HP.out n).2 (by simpa using Ne.symm hgne))
      have HDS:Hid (∀ n,((wr.drewN n).setCell ⟨gv,l.length * 2 + 1,none⟩ (.int .i64 ((ny + 1:Nat):Int))).ownsRow w.heap.size 3 1 u5 ds.length (nums .i64 ds)):=Lib.hid (fun n=>own_other (pw_own_below HD.out (pw_below_drewN (Below.refl _ _) n)) (HP.out n).2 (own_type_ne HD.out HV.out (by decide)))
      have HBS:Hid (∀ n,Below w.heap.size w ((wr.drewN n).setCell ⟨gv,l.length * 2 + 1,none⟩ (.int .i64 ((ny + 1:Nat):Int)))):=Lib.hid (fun n=>below_set (pw_below_drewN HB.out n) hbv)
      have hLk:=fun n=>(HMS.out n).look (s:=x) hxw
      have ecast:((ny + 1:Nat):Int) = (ny:Int) + 1:=by omega
      simp only [ecast] at HP HMS HDS HBS hLk
      have hLk0:=fun n=>hLk n
      have HGN:=Lib.hid hgne
      clear hgne ecast hLk
      have HNK:Hid (nn < maxLen):=Lib.hid (by have:=HC.out;have:=HK.out;unfold maxLen;omega)
      have HW1:Hid ((Lit.int .i64 1).wf = true):=Lib.hid (wf64 (by omega) (by omega))
      by_cases hz:m x = 0
      ·rw [hz] at hLk0
       go_wp2
       go_quiet (fail)
       go_wp2
       go_quiet (fail)
       go_wp2_with (at_mapUpdate;refine stop_intro ?_)
       unfold Stop
       generalize hq:(wr.drewN _).setCell ⟨gv,l.length * 2 + 1,none⟩ (.int .i64 ((ny:Int) + 1)) = w2
       have HP2:=HP.out
       have HV2:Hid (w2.ownsRow w.heap.size 116 2 (.slice (some ⟨gv,0,none⟩) (l.length + 1) cap) (l.length + 1) (visC (l ++ [(b,ny + 1)]))):=Lib.hid (by rw [← hq];exact (HP.out _).1)
       have HM2:Hid (MapI w2 w.heap.size nn m):=Lib.hid (by rw [← hq];exact HMS.out _)
       have HD2:Hid (w2.ownsRow w.heap.size 3 1 u5 ds.length (nums .i64 ds)):=Lib.hid (by rw [← hq];exact HDS.out _)
       have HB2:Hid (Below w.heap.size w w2):=Lib.hid (by rw [← hq];exact HBS.out _)
       clear HP2 hq
       refine MapI.put rfl _ _ _ rfl HM2.out HNK.out x 1 rfl rfl rfl hxw HW1.out ?_
       intro w3 hM3 hg3
       have HM3:=Lib.hid hM3
       have HV3:=Lib.hid (own_other HV2.out hg3 (.inr (own_ne_map HV2.out HM2.out)))
       have HD3:=Lib.hid (own_other HD2.out hg3 (.inr (own_ne_map HD2.out HM2.out)))
       have HB3:=Lib.hid (below_at HB2.out (Nat.le_refl _) hg3)
       clear hM3 hg3
       go_wp2_with (at_builtin;refine stop_intro ?_)
       unfold Stop
       refine print_append_cells (w0:=w) w.heap.size rfl (.tmp 61) (.tmp 64) 117 116 (.agg #[.int .i64 0,.int .i64 0]) 2 16 rfl Try.underlying117 info116 rfl (by decide) (by decide) (.slice (some ⟨gv,0,none⟩) (l.length + 1) cap) (l.length + 1) (visC (l ++ [(b,ny + 1)])) [.int .i64 x,.int .i64 0] rfl rfl rfl (by simp [Value.oneCell']) HV3.out HB3.out HB3.out.size ?len ?_
       case len=>have h5:=HC.out.2.1;have h6:=HLN.out;have h7:=HK.out;rw [List.length_cons] at h5;omega
       intro v1 w4 hV4 hB4 hg4 hat4
       have HV4:=Lib.hid hV4
       have HB4:=Lib.hid hB4
       have HD4:=Lib.hid (own_other HD3.out hg4 (own_type_ne HD3.out HV3.out (by decide)))
       have HM4:=Lib.hid (HM3.out.kept hg4 (fun e=>own_ne_map HV3.out HM3.out e.symm))
       clear hV4 hB4 hg4 hat4
       go_wp2
       go_roundg k1
       case measure=>have:=HK1.out;omega
       case rel=>
        have h2:=HS2.out
        rw [if_pos hz] at h2
        injection h2 with e1 e2
        subst e1;subst e2
        refine ⟨nn + 1,updI m x 1,(x,0) :: (b,ny + 1) :: st,ds,Lib.hid (by simpa using HL2.out),HM4,Lib.hid ?_,HD4,HB4,Lib.hid ?_,Lib.hid ?_⟩
        ·have:=HV4.out
         rw [List.reverse_cons,List.reverse_cons,visC_append _ [(x,0)],← HLL.out]
         simp only [List.length_cons,HLN.out]
         exact this
        ·have:=HC.out;have:=HK1.out;simp at *;omega
        ·intro y hy
         simp at hy
         rcases hy with rfl | rfl | hy
         ·exact hcx
         ·exact HIB.out
         ·exact HI.out y (by simp [hy])
      ·have hz1:(m x == 0) = false:=by simpa using hz
       go_wp2
       go_quiet (fail)
       go_wp2
       go_quiet (fail)
       go_wp2
       generalize hq:(wr.drewN _).setCell ⟨gv,l.length * 2 + 1,none⟩ (.int .i64 ((ny:Int) + 1)) = w2
       have HV2:Hid (w2.ownsRow w.heap.size 116 2 (.slice (some ⟨gv,0,none⟩) (l.length + 1) cap) (l.length + 1) (visC (l ++ [(b,ny + 1)]))):=Lib.hid (by rw [← hq];exact (HP.out _).1)
       have HM2:Hid (MapI w2 w.heap.size nn m):=Lib.hid (by rw [← hq];exact HMS.out _)
       have HD2:Hid (w2.ownsRow w.heap.size 3 1 u5 ds.length (nums .i64 ds)):=Lib.hid (by rw [← hq];exact HDS.out _)
       have HB2:Hid (Below w.heap.size w w2):=Lib.hid (by rw [← hq];exact HBS.out _)
       clear hq
       go_roundg (gk - 1)
       case measure=>have:=HN.out;omega
       case rel=>exact ⟨ny + 1,rfl,Lib.hid (by have:=HN.out;omega),Lib.hid (by have:=HS2.out;rwa [if_neg hz] at this),HV2,HM2,HD2,HB2⟩
     ·have hS2:nx2 = ny ∧ fo = none:=by
       have:=HS.out
       rw [List.drop_eq_nil_of_le (by omega),scanL] at this
       injection this with e1 e2
       exact ⟨e1.symm,e2.symm⟩
      obtain ⟨rfl,rfl⟩:=hS2
      go_wp2
      go_quiet (fail)
      obtain ⟨i116,hi116,_⟩:=Option.map_eq_some_iff.1 info116
      have hct:∀ W:World,(Instr.slice 117 (.slice (some ⟨gv,0,none⟩) (l.length + 1) cap) none (some (.int .i64 (l.length:Int))) none).run Try.prog W = .ok (.slice (some ⟨gv,0,none⟩) l.length cap) W:=by
       intro W
       have h5:=cut_to (P:=Try.prog) 117 116 .i64 Try.underlying117 hi116 (some ⟨gv,0,none⟩) (l.length + 1) cap (l.length:Int) (by omega) (by omega) hcap W
       rwa [Int.toNat_natCast] at h5
      clear hi116
      go_wp2_with (at_builtin;refine stop_intro ?_)
      unfold Stop
      generalize hq:wr.drewN _ = w2
      have HV2:Hid (w2.ownsRow w.heap.size 116 2 (.slice (some ⟨gv,0,none⟩) (l.length + 1) cap) (l.length + 1) (visC (l ++ [(b,nx2)]))):=Lib.hid (by rw [← hq];exact HV.out)
      have hsz:wr.heap.size = w2.heap.size:=by rw [← hq];rfl
      have HM2:Hid (MapI w2 w.heap.size nn m):=Lib.hid (by rw [← hq];exact HM.out)
      have HD2:Hid (w2.ownsRow w.heap.size 3 1 u5 ds.length (nums .i64 ds)):=Lib.hid (by rw [← hq];exact HD.out)
      have HB2:Hid (Below w.heap.size w w2):=Lib.hid (by rw [← hq];exact pw_below_drewN HB.out _)
      clear hq
      refine print_append_num (w0:=w) w.heap.size rfl (.tmp 66) (.tmp 71) 34 3 .i64 8 rfl Try.underlying34 info3 (by decide) u5 ds b rfl (congrArg (fun n=>Value.slice (some ⟨n,0,none⟩) 1 1) hsz) HD2.out HB2.out HB2.out.size ?len ?_
      case len=>have h5:=HC.out.2.2;have h7:=HK.out;omega
      intro v1 w4 hD4 hB4 hg4 hat4
      have HD4:=Lib.hid hD4
      have HB4:=Lib.hid hB4
      have HV4:=Lib.hid (own_other HV2.out hg4 (own_type_ne HV2.out HD2.out (by decide)))
      have HM4:=Lib.hid (HM2.out.kept hg4 (fun e=>own_ne_map HD2.out HM2.out e.symm))
      clear hD4 hB4 hg4 hat4
      go_wp2
      go_roundg k1
      case measure=>have:=HK1.out;omega
      case rel=>
       refine ⟨nn,m,st,ds ++ [b],Lib.hid (by simpa using HL2.out),HM4,Lib.hid ?_,HD4,HB4,Lib.hid ?_,Lib.hid (fun y hy=>HI.out y (by simp [hy]))⟩
       ·have h5:=own_take HV4.out (m:=l.length) (by omega)
        rw [visC_append,List.take_append_of_le_length (by rw [visC_length];omega),List.take_of_length_le (by rw [visC_length];omega)] at h5
        rw [← HLL.out,HLN.out]
        exact h5
       ·have:=HC.out;have:=HK1.out;simp at *;omega
end Go.Proofs.Ytgbeliajhccndaa
end
section
set_option linter.unusedVariables false
set_option linter.unusedSimpArgs false
namespace Go.Proofs.Ytgbeliajhccndaa
open Go.RowKit Go.Proofs.YtgbeliajhccndaaW.PrintWords Go.Proofs.YtgbeliajhccndaaW.PrintLast Go.Proofs.YtgbeliajhccndaaW.PrintMore PP
def tl {α:Type} (e:Nat) (d:Kd α) (ms:List α):Kd (List α × Bool) where
 sz:=1
 E:=e :: d.E
 K:=fun w x cs=>∃ A c,cs = [.slice A x.1.length c] ∧ x.1.length ≤ c ∧ (x.2 = false ∧ x.1 = [] ∨ x.2 = true ∧ x.1.length + ms.length ≤ c ∧ d.C w A (x.1.length + ms.length) (x.1 ++ ms))
 M:=fun w base ok x cs=>∃ v,cs = [v] ∧ (x.2 = false ∧ x.1 = [] ∧ v = .slice none 0 0 ∨ x.2 = true ∧ ∃ A c,v = .slice A x.1.length c ∧ d.R e w base ok (.slice A (x.1.length + ms.length) c) (x.1 ++ ms))
 K_len:=by
  rintro w x cs ⟨A,c,rfl,_⟩
  rfl
 K_one:=by
  rintro w x cs ⟨A,c,rfl,_⟩ u hu
  rw [List.mem_singleton.1 hu]
  rfl
 K_below:=by
  rintro w w1 x cs hb ⟨A,c,rfl,hl,h | ⟨h1,h2,h3⟩⟩
  ·exact ⟨A,c,rfl,hl,.inl h⟩
  ·exact ⟨A,c,rfl,hl,.inr ⟨h1,h2,Kd.C_below h3 hb⟩⟩
 K_of_M:=by
  rintro w base ok ⟨l,b⟩ cs ⟨v,rfl,⟨h1,h2,rfl⟩ | ⟨h1,A,c,rfl,h⟩⟩
  ·dsimp only at h1 h2
   subst h2
   exact ⟨none,0,rfl,Nat.le_refl _,.inl ⟨h1,rfl⟩⟩
  ·obtain ⟨_,h3,h4⟩:=Kd.R_reads' h
   rw [List.length_append] at h4
   dsimp only at h3 h4 ⊢
   exact ⟨A,c,rfl,by omega,.inr ⟨h1,h3,h4⟩⟩
 M_mono:=by
  rintro w base ok ok' x cs hok ⟨v,rfl,h | ⟨h1,A,c,rfl,h⟩⟩
  ·exact ⟨v,rfl,.inl h⟩
  ·exact ⟨_,rfl,.inr ⟨h1,A,c,rfl,Kd.R_mono h hok⟩⟩
 M_bound:=by
  rintro w base ok x cs ⟨v,rfl,h | ⟨h1,A,c,rfl,h⟩⟩
  ·exact ⟨v,rfl,.inl h⟩
  ·exact ⟨_,rfl,.inr ⟨h1,A,c,rfl,Kd.R_bound h⟩⟩
 M_move:=by
  rintro w w1 base ok x cs hm ⟨v,rfl,h | ⟨h1,A,c,rfl,h⟩⟩
  ·exact ⟨v,rfl,.inl h⟩
  ·exact ⟨_,rfl,.inr ⟨h1,A,c,rfl,Kd.R_move h hm⟩⟩
 M_lower:=by
  rintro w base base' ok x cs hb ⟨v,rfl,h | ⟨h1,A,c,rfl,h⟩⟩
  ·exact ⟨v,rfl,.inl h⟩
  ·exact ⟨_,rfl,.inr ⟨h1,A,c,rfl,Kd.R_lower h hb⟩⟩
abbrev kL:Kd (List Int × Bool):=tl 3 (Kd.int .i64) [-71,-72]
def f42:Kd (S42 × Bool):=Kd.iso (Kd.pair (Kd.int .i64) (Kd.pair (Kd.int .i64) (Kd.pair (Kd.int .i64) kL))) (fun x:S42 × Bool=>(x.1.f0,x.1.f1,x.1.f2,(x.1.f3,x.2)))
def f44:Kd (S44 × Bool):=Kd.iso (Kd.pair (Kd.int .i64) (Kd.pair (Kd.int .i64) kL)) (fun x:S44 × Bool=>(x.1.f0,x.1.f1,(x.1.f2,x.2)))
def f46:Kd (S46 × Bool):=Kd.iso (Kd.pair kL (Kd.pair kL (Kd.pair f44 kL))) (fun x:S46 × Bool=>((x.1.f0,x.2),(x.1.f1,x.2),(x.1.f2,x.2),(x.1.f3,x.2)))
def m42:S42 × Bool:=(⟨-71,0,0,[]⟩,false)
def m46:S46 × Bool:=(⟨[],[],⟨-71,0,[]⟩,[]⟩,false)
def m38:S38 × Bool:=(⟨⟨#[109,97,114,107]⟩,[],0,[],[]⟩,false)
abbrev tt {α:Type} (l:List α):List (α × Bool):=l.map (·,true)
def f38:Kd (S38 × Bool):=Kd.iso (Kd.pair Kd.string (Kd.pair kL (Kd.pair (Kd.int .i64) (Kd.pair (tl 42 f42 [m42]) (tl 46 f46 [m46]))))) (fun x:S38 × Bool=>(x.1.f0,(x.1.f1,x.2),x.1.f2,(tt x.1.f3,x.2),(tt x.1.f4,x.2)))
theorem C_cut {α β:Type} {d:Kd α} {d':Kd β} {w:World} {A:Option Addr} {n m:Nat} {xs:List β} {ys:List α} (f:β → α) (hs:d.sz = d'.sz) (hK:∀ x cs,d.K w (f x) cs → d'.K w x cs) (h:d.C w A (n + m) (xs.map f ++ ys)) (hn:xs.length = n):d'.C w A n xs:=by
 obtain ⟨h1,h2,h3⟩:=h
 refine ⟨hn,by omega,fun h0=>?_⟩
 obtain ⟨ad,e,hc⟩:=h3 (by omega)
 refine ⟨ad,e,fun j p hj=>?_⟩
 obtain ⟨c,hl,hr,hcell⟩:=hc j (f p) (by
  rw [List.getElem?_append_left (by rw [List.length_map];exact (List.getElem?_eq_some_iff.1 hj).1),List.getElem?_map,hj]
  rfl)
 rw [hs] at hl hcell
 exact ⟨c,hl,hK _ _ hr,hcell⟩
theorem tl_K {α β:Type} {e:Nat} {d:Kd α} {d':Kd β} {w:World} {xs:List β} {b:Bool} {ms:List α} {cs:List Value} (f:β → α) (hs:d.sz = d'.sz) (hK:∀ x cs,d.K w (f x) cs → d'.K w x cs) (h:(tl e d ms).K w (xs.map f,b) cs):(Kd.slice e d').K w xs cs:=by
 obtain ⟨A,c,rfl,hl,⟨_,h2⟩ | ⟨_,h2,h3⟩⟩:=h
 ·rw [List.map_eq_nil_iff] at h2
  subst h2
  exact ⟨A,c,rfl,Nat.zero_le _,rfl,by simp,fun h=>absurd h (Nat.lt_irrefl 0)⟩
 ·rw [List.length_map] at hl h3
  exact ⟨A,c,by rw [List.length_map],hl,C_cut f hs hK h3 rfl⟩
theorem kL_K {w:World} {l:List Int} {b:Bool} {cs:List Value} (h:kL.K w (l,b) cs):(Kd.slice 3 (Kd.int .i64)).K w l cs:=by
 have:=tl_K (d:=Kd.int .i64) (d':=Kd.int .i64) (e:=3) (xs:=l) (b:=b) (ms:=[-71,-72]) id rfl (fun _ _ h=>h) (by rw [List.map_id];exact h)
 exact this
theorem f42_K {w:World} {x:S42 × Bool} {cs:List Value} (h:f42.K w x cs):k42.K w x.1 cs:=by
 obtain ⟨a0,b0,rfl,h0,a1,b1,rfl,h1,a2,b2,rfl,h2,h3⟩:=h
 exact ⟨a0,_,rfl,h0,a1,_,rfl,h1,a2,_,rfl,h2,kL_K h3⟩
theorem f44_K {w:World} {x:S44 × Bool} {cs:List Value} (h:f44.K w x cs):k44.K w x.1 cs:=by
 obtain ⟨a0,b0,rfl,h0,a1,b1,rfl,h1,h2⟩:=h
 exact ⟨a0,_,rfl,h0,a1,_,rfl,h1,kL_K h2⟩
theorem f46_K {w:World} {x:S46 × Bool} {cs:List Value} (h:f46.K w x cs):k46.K w x.1 cs:=by
 obtain ⟨a0,b0,rfl,h0,a1,b1,rfl,h1,a2,b2,rfl,h2,h3⟩:=h
 exact ⟨a0,_,rfl,kL_K h0,a1,_,rfl,kL_K h1,a2,_,rfl,f44_K h2,kL_K h3⟩
theorem f38_K {w:World} {x:S38 × Bool} {cs:List Value} (h:f38.K w x cs):k38.K w x.1 cs:=by
 obtain ⟨a0,b0,rfl,h0,a1,b1,rfl,h1,a2,b2,rfl,h2,a3,b3,rfl,h3,h4⟩:=h
 exact ⟨a0,_,rfl,h0,a1,_,rfl,kL_K h1,a2,_,rfl,h2,a3,_,rfl,tl_K (·,true) rfl (fun _ _ h=>f42_K h) h3,tl_K (·,true) rfl (fun _ _ h=>f46_K h) h4⟩
theorem f38_C {w:World} {A:Option Addr} {n m:Nat} {ps:List S38} {ys:List (S38 × Bool)} (h:f38.C w A (n + m) (tt ps ++ ys)) (hn:ps.length = n):k38.C w A n ps:=
 C_cut (d:=f38) (d':=k38) (·,true) rfl (fun _ _ h=>f38_K h) h hn
set_option maxRecDepth 100000 in
set_option maxHeartbeats 4000000 in
theorem room_any (w:World) (l:List Int) (A:Option Addr) (c:Nat) (hC:(Kd.int .i64).C w A l.length l) (hl:l.length ≤ 1000000000000) :
 Calls Try.prog 19 #[.slice A l.length c] w fun e W=>∃ g cap,e = .returned (.slice (some ⟨g,0,none⟩) l.length cap) ∧ Hid ((Kd.int .i64).R 3 W w.heap.size (fun _=>True) (.slice (some ⟨g,0,none⟩) (l.length + 2) cap) (l ++ [-71,-72])) ∧ Hid (Below w.heap.size w W):=by
 have HC:=Lib.hid hC
 have HL:=Lib.hid hl
 clear hC hl
 go_enter Try.func19,Try.ntmps19
 go_wp2_with (at_builtin;refine stop_intro ?_)
 unfold Stop
 refine Kd.R_append_rows (Kd.int .i64) (w0:=w) (W:=w) w.heap.size rfl (.const (.slice none 0 0)) (.tmp 4) 34 3 (.int .i64 0) 8 rfl Try.underlying34 info3 rfl (by decide) (by decide) (.slice none 0 0) [] l A l.length c (fun _=>True) (fun _=>False) rfl rfl (Kd.R_nil _ _ _ _ _) HC.out (fun _ _ h=>h) (fun _ h=>h.elim) (fun _ _=>trivial) (Below.refl _ _) (Nat.le_refl _) (by have:=HL.out;simp;omega) ?_
 intro v1 w1 hV1 hB1 hg1 hat1
 rw [List.nil_append] at hV1
 have HV1:=Lib.hid hV1
 have HB1:=Lib.hid hB1
 clear hV1 hB1 hg1 hat1
 go_wp2_with (first | ((with_reducible refine gate_dst (N:=6) rfl ?_);refine Kd.R_lit (Kd.int .i64) _ 3 ?hg (N:=6) ?hd (xs:=([(-71),(-72)]:List Int)) (inner:=[.int .i64 (-71),.int .i64 (-72)]) (ok:=fun _=>True) (okp:=fun _=>True) ?hr ?hp (fun _ hk=>hk) trivial (Below.refl _ _) (Nat.le_refl _) (by simp) ?_;(case hd=>rfl);(case hg=>rfl);(case hr=>first | (go_simp;done) | (go_simp;rfl));(case hp=>exact (Reps.one (show Kd.M (Kd.int .i64) _ _ _ (-71) [.int .i64 (-71)] from rfl) (Reps.one (show Kd.M (Kd.int .i64) _ _ _ (-72) [.int .i64 (-72)] from rfl) (Reps.none _ _))));intro v2 w2 ho8 hb hg_ hnew_;have HV2:=Lib.hid ho8;have HB2:=Lib.hid hb;clear hg_ hnew_ ho8 hb;obtain ⟨A2,c2,e2⟩:=Kd.R_slice HV2.out;subst e2) | (at_builtin;refine stop_intro ?_))
 unfold Stop
 refine Kd.R_append_rows (Kd.int .i64) (w0:=w) (W:=w2) w.heap.size rfl (.tmp 5) (.tmp 6) 34 3 (.int .i64 0) 8 rfl Try.underlying34 info3 rfl (by decide) (by decide) v1 l [-71,-72] A2 _ c2 (fun _=>True) (fun _=>False) rfl rfl (Kd.R_below HV1.out HB2.out) (Kd.R_reads' HV2.out).2.2 (fun _ _ h=>h) (fun _ h=>h.elim) (fun _ _=>trivial) (below_then HB1.out HB1.out.size HB2.out) (Nat.le_trans HB1.out.size HB2.out.size) (by have:=HL.out;simp;omega) ?_
 intro v3 w3 hV3 hB3 hg3 hat3
 obtain ⟨inner,ho⟩:=Kd.R_own hV3
 obtain ⟨g,c3,e3,_⟩:=own_form ho (by simp)
 clear ho
 subst e3
 have hlen:(l ++ [-71,-72]).length = l.length + 2:=by simp
 rw [hlen] at hV3 ⊢
 have hcap:=(Kd.R_reads' hV3).2.1
 obtain ⟨i03,hi03,_,hsz3,_⟩:=info_parts info3
 have hcut:=cut_to (P:=Try.prog) 34 3 .i64 Try.underlying34 hi03 (some ⟨g,0,none⟩) (l.length + 2) c3 (l.length:Int) (by omega) (by omega) hcap
 have HV3:=Lib.hid hV3
 have HB3:=Lib.hid hB3
 clear hV3 hB3 hg3 hat3
 go_wp2_with (fail)
 go_ret
 exact ⟨g,c3,rfl,HV3,HB3⟩
end Go.Proofs.Ytgbeliajhccndaa
end
