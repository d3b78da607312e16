/- Lemmas of this claim (SV). -/
import Derived.Test.YtgbeliajhccndaaKN
set_option linter.unusedVariables false
set_option linter.unusedSimpArgs false
namespace Go.Proofs.Ytgbeliajhccndaa
open Go.RowKit Go.Proofs.YtgbeliajhccndaaW.PrintWords Go.Proofs.YtgbeliajhccndaaW.PrintLast Go.Proofs.YtgbeliajhccndaaW.PrintMore PP
theorem Ld.far {base gh:Nat} {wr:World} {hs:List Hd} {rs:List (List Int)} {l:List Int} {p:Addr} (h:Ld base wr gh hs rs) (hp:RowI wr p.block l) (u:Value) (ho:∀ i k,i < hs.length → (encH (hs.getD i zH)).ownBlock = some k → k ≠ p.block):Ld base (wr.setCell p u) gh hs rs:=by
 have hne:gh ≠ p.block:=by
  intro e
  have h1:=h.blk
  have h2:wr.heap[p.block]? = _:=hp
  rw [← e,h1] at h2
  injection h2 with h2
  injection h2 with _ h2
  exact absurd h2 (by decide)
 exact ⟨blk_far h.blk hne u,h.len,fun i hi=>int_flat (h.row i hi) (fun k hk=>Below.heap_setCell _ _ _ _ (ho i k hi hk)),h.apart⟩
theorem placeF_step {P R l:List Int} {i:Nat} (hi:i < l.length) (h:R = placeF P i (l.drop i)):R = placeF (P.set (l.getD i 0).toNat (i:Int)) (i + 1) (l.drop (i + 1)):=by
 rw [h,List.drop_eq_getElem_cons hi,placeF];simp [List.getD_eq_getElem?_getD,hi]
theorem predsF_step {ts rs R:List (List Int)} {l:List Int} {i:Nat} (hi:i < l.length) (h:R = predsF ts rs (l.drop i)):R = predsF ts (addAll (l.getD i 0) rs (ts.getD (l.getD i 0).toNat [])) (l.drop (i + 1)):=by
 rw [h,List.drop_eq_getElem_cons hi,predsF];simp [List.getD_eq_getElem?_getD,hi]
theorem zeros_made (n:Nat):(madeCells #[.int .i64 0] n) = (nums .i64 (List.replicate n 0)).toArray:=by
 apply Array.ext'
 show _ = (nums .i64 (List.replicate n 0))
 apply List.ext_getElem
 ·simp [nums,madeCells]
 ·intro i h1 h2
  simp [nums,madeCells,Nat.mod_one]
structure TrW (w3 wr:World) (n:Nat) (T P:List Int) (hs:List Hd) (rs:List (List Int)):Prop where
 below:Below w3.heap.size w3 wr
 tr:RowI wr (w3.heap.size + 1 + 1) T
 pl:RowI wr w3.heap.size P
 ld:Ld (w3.heap.size + 1 + 1 + 1) wr (w3.heap.size + 1) hs rs
 l1:T.length = n
 l2:P.length = n
 l3:hs.length = n
section
variable {w3 wr w1 W:World} {n:Nat} {T P:List Int} {hs:List Hd} {rs:List (List Int)}
theorem TrW.far_own (h:TrW w3 wr n T P hs rs) {j k:Nat} (hj:j < hs.length) (hk:(encH (hs.getD j zH)).ownBlock = some k):w3.heap.size + 1 + 1 + 1 ≤ k ∧ k < wr.heap.size:=by
 obtain ⟨h1,h2,_⟩:=rowI_block (h.ld.row j hj) hk
 exact ⟨h1,h2⟩
theorem TrW.setP (h:TrW w3 wr n T P hs rs) (i:Nat) (x:Int):TrW w3 (wr.setCell ⟨w3.heap.size,i,none⟩ (.int .i64 x)) n T (P.set i x) hs rs:=
 ⟨below_set h.below (Nat.le_refl _),h.tr.far (p:=⟨w3.heap.size,i,none⟩) (by show w3.heap.size + 1 + 1 ≠ w3.heap.size;omega) _,h.pl.set i x,h.ld.far (p:=⟨w3.heap.size,i,none⟩) h.pl _ (fun j k hj hk=>by have:=h.far_own hj hk;show k ≠ w3.heap.size;omega),h.l1,by simp [h.l2],h.l3⟩
theorem TrW.setT (h:TrW w3 wr n T P hs rs) (i:Nat) (x:Int):TrW w3 (wr.setCell ⟨w3.heap.size + 1 + 1,i,none⟩ (.int .i64 x)) n (T.set i x) P hs rs:=
 ⟨below_set h.below (by omega),h.tr.set i x,h.pl.far (p:=⟨w3.heap.size + 1 + 1,i,none⟩) (by show w3.heap.size ≠ w3.heap.size + 1 + 1;omega) _,h.ld.far (p:=⟨w3.heap.size + 1 + 1,i,none⟩) h.tr _ (fun j k hj hk=>by have:=h.far_own hj hk;show k ≠ w3.heap.size + 1 + 1;omega),by simp [h.l1],h.l2,h.l3⟩
theorem TrW.then_ (h:TrW w3 wr n T P hs rs) (hb:Below wr.heap.size wr W):TrW w3 W n T P hs rs:=
 ⟨below_then h.below h.below.size hb,h.tr.below hb,h.pl.below hb,h.ld.below hb,h.l1,h.l2,h.l3⟩
theorem TrW.app (h:TrW w3 wr n T P hs rs) {i:Nat} (hi:i < hs.length) {h1:Hd} {x:Int} (hR:(Kd.int .i64).R 3 w1 (w3.heap.size + 1 + 1 + 1) (fun _=>True) (encH h1) (rs.getD i [] ++ [x])) (hg:wr.grownBy w1 (encH (hs.getD i zH)).ownBlock)
 (hat:(encH h1).ownBlock = (encH (hs.getD i zH)).ownBlock ∨ ∃ b,(encH h1).ownBlock = some b ∧ wr.heap.size ≤ b) :
 TrW w3 (w1.setCell ⟨w3.heap.size + 1,i,none⟩ (encH h1)) n T P (hs.set i h1) (addAt rs i x):=by
 have key:∀ g l,RowI wr g l → g < w3.heap.size + 1 + 1 + 1 → g ≠ w3.heap.size + 1 → RowI (w1.setCell ⟨w3.heap.size + 1,i,none⟩ (encH h1)) g l:=by
  intro g l hr hlt hne
  refine RowI.far (p:=⟨w3.heap.size + 1,i,none⟩) ?_ hne _
  show w1.heap[g]? = _
  rw [hg.block g hr.lt (fun e=>by have:=h.far_own hi e.symm;omega)]
  exact hr
 refine ⟨below_set (h.below.grown hg h.below.size (fun k hk=>by have:=h.far_own hi hk;omega)) (by omega),key _ _ h.tr (by omega) (by omega),key _ _ h.pl (by omega) (by omega),h.ld.app hi hR hg hat,h.l1,h.l2,by simp [h.l3]⟩
end
theorem passF_step {P:List Int} {rs:List (List Int)} {K:Nat} {T l:List Int} {ch:Bool} {R:List Int × Bool} {i:Nat} (hi:i < l.length) (h:passF P rs K T ch (l.drop i) = some R) :
 ∃ m,metF T P K (-1) (rs.getD (l.getD i 0).toNat []) = some m ∧ (if m = T.getD (l.getD i 0).toNat 0 then passF P rs K T ch (l.drop (i + 1)) else passF P rs K (T.set (l.getD i 0).toNat m) true (l.drop (i + 1))) = some R:=by
 rw [List.drop_eq_getElem_cons hi,passF] at h
 have e:l.getD i 0 = l[i]:=by simp [List.getD_eq_getElem?_getD,hi]
 rw [e]
 split at h
 ·rename_i m hm
  exact ⟨m,hm,h⟩
 ·cases h
theorem met_n {n:Nat} (T P l:List Int) (A B C:Option Addr) (ca cb cc K m:Nat) (r:Int) (w:World) (hT:(Kd.int .i64).C w A T.length T) (hP:(Kd.int .i64).C w B P.length P) (hL:(Kd.int .i64).C w C l.length l) (h1:T.length = n) (h2:P.length = n) (h3:m = l.length)
 (hca:n ≤ ca) (hcb:n ≤ cb) (hcc:l.length ≤ cc) (hr:metF T P K (-1) l = some r) :
 Calls Try.prog 85 #[.slice A n ca,.slice B n cb,.slice C m cc] w fun e w'=>e = .returned (.int .i64 r) ∧ Below w.heap.size w w':=by
 subst h1 h3
 have:=met_any T P l A B C ca cb cc K r w hT hP hL hca (by omega) hcc h2 hr
 rwa [h2] at this
theorem C_of_ri {w:World} {n:Nat} {A:Option Addr} {l:List Int} (h:ReadsInt w .i64 A n l):(Kd.int .i64).C w A n l:=Kd.C_of_reads (enc:=Value.int .i64) (d:=0) h
theorem ri_of_C {w:World} {n:Nat} {A:Option Addr} {l:List Int} (h:(Kd.int .i64).C w A n l):ReadsInt w .i64 A n l:=Kd.reads_of_C (enc:=Value.int .i64) (d:=0) h
theorem C_of_own {w:World} {base c:Nat} {A:Option Addr} {l:List Int} (h:w.ownsRow base 3 1 (.slice A l.length c) l.length (nums .i64 l)):(Kd.int .i64).C w A l.length l:=by
 obtain ⟨A',c',e,hr⟩:=own_reads h
 injection e with e
 subst e
 exact Kd.C_of_reads hr
set_option maxRecDepth 100000 in
set_option maxHeartbeats 8000000 in
theorem Tree_any (A:Option Addr) (c:Nat) (ts:List (List Int)) (K:Nat) (r line:List Int) (w:World) (hr:kR.C w A ts.length ts) (hg:goodB ts = true) (hts:ts.length ≤ 2000000) (hK:K ≤ 10000000) (hl:lineOf ts K = some line) (h:treeOf ts K = some r)
 (hin:line.all (inB ts.length) = true) (hln:line.length ≤ 2000000) (hl0:0 < line.length) (h2:∀ i,i < ts.length → (ts.getD i []).length ≤ 2) :
 Calls Try.prog 71 #[.slice A ts.length c] w fun e w'=>∃ gt,e = .returned (.slice (some ⟨gt,0,none⟩) ts.length ts.length) ∧ Hid (RowI w' gt r ∧ r.length = ts.length ∧ w.heap.size ≤ gt) ∧ Below w.heap.size w w':=by
 have hmk1:=fun W=>print_make (P:=Try.prog) 34 3 .i64 8 Try.underlying34 info3 (by decide) ts.length (by omega) W
 have hmk2:=fun W=>print_make_of (P:=Try.prog) 73 34 (.slice none 0 0) 24 Try.underlying73 info34 rfl (by decide) ts.length (by omega) W
 have HR:=Lib.hid hr
 have HG:=Lib.hid hg
 have HT:=Lib.hid hts
 have HK:=Lib.hid hK
 have HL:=Lib.hid hl
 have HI:=Lib.hid hin
 have HH:=Lib.hid h
 have HLN:=Lib.hid hln
 have HL0:=Lib.hid hl0
 have H2:=Lib.hid h2
 clear hr hg hts hK h hin hl hln hl0 h2
 go_enter Try.func71,Try.ntmps71
 go_wp2_with (first | (go_at_call 66;with_reducible refine Calls.mono (good_any A c ts _ HR.out) ?_;rintro e w1 ⟨rfl,hb⟩;rw [HG.out];have HB1:=Lib.hid hb;clear hb) | (go_at_call 67;with_reducible refine Calls.mono (lined_any A c ts K line _ (Kd.C_below HR.out HB1.out) HG.out HT.out HK.out HL.out) ?_;rintro e w3 ⟨v2,rfl,hR2,hb⟩;obtain ⟨A6,c6,hv2⟩:=own_slice hR2;obtain rfl:=hv2;have HB3:=Lib.hid (below_then HB1.out HB1.out.size hb);have HD3:=Lib.hid hR2;clear hb hR2) | (go_at_call 67;refine stop_intro ?_))
 obtain ⟨W3,hW3⟩:∃ W3,W3 = ((w3.alloc (.cells (madeCells #[.int .i64 0] ts.length) 3)).alloc (.cells (madeCells #[.slice none 0 0] ts.length) 34)).alloc (.cells (madeCells #[.int .i64 0] ts.length) 3):=⟨_,rfl⟩
 have hs1:(w3.alloc (.cells (madeCells #[.int .i64 0] ts.length) 3)).heap.size = w3.heap.size + 1:=size_alloc' _ _
 have hs2:((w3.alloc (.cells (madeCells #[.int .i64 0] ts.length) 3)).alloc (.cells (madeCells #[.slice none 0 0] ts.length) 34)).heap.size = w3.heap.size + 1 + 1:=by rw [size_alloc',hs1]
 have hP:RowI W3 w3.heap.size (List.replicate ts.length 0):=by
  rw [hW3]
  refine RowI.below ?_ (below_alloc (below_alloc (Below.refl _ _) _) _)
  rw [zeros_made]
  exact blk_new w3 _
 have hLd:Ld (w3.heap.size + 1 + 1 + 1) W3 (w3.heap.size + 1) (List.replicate ts.length zH) (List.replicate ts.length []):=by
  rw [hW3]
  refine Ld.below ?_ (below_alloc (Below.refl _ _) _)
  have:=Ld.made (w3.alloc (.cells (madeCells #[.int .i64 0] ts.length) 3)) ts.length (w3.heap.size + 1 + 1 + 1)
  rwa [hs1] at this
 have hTr:RowI W3 (w3.heap.size + 1 + 1) (List.replicate ts.length 0):=by
  rw [hW3,zeros_made]
  have:=blk_new ((w3.alloc (.cells (nums .i64 (List.replicate ts.length 0)).toArray 3)).alloc (.cells (madeCells #[.slice none 0 0] ts.length) 34)) (.cells (nums .i64 (List.replicate ts.length 0)).toArray 3)
  rw [zeros_made] at hs2
  rwa [hs2] at this
 have HTW0:Hid (TrW w3 W3 ts.length (List.replicate ts.length 0) (List.replicate ts.length 0) (List.replicate ts.length zH) (List.replicate ts.length [])):=Lib.hid ⟨by rw [hW3];exact below_alloc (below_alloc (below_alloc (Below.refl _ _) _) _) _,hTr,hP,hLd,by simp,by simp,by simp⟩
 have HLC:Hid ((Kd.int .i64).C w3 A6 line.length line):=Lib.hid (C_of_own HD3.out)
 have HLP:Hid (0 < line.length ∧ line.length ≤ c6):=Lib.hid ⟨HL0.out,by
  obtain ⟨g,cap,e,h1,_⟩:=own_form HD3.out HL0.out
  injection e with _ _ e
  omega⟩
 have HG0:Hid (0 < ts.length):=Lib.hid (by have:=HG.out;unfold goodB at this;simp only [Bool.and_eq_true,decide_eq_true_eq] at this;exact this.2)
 obtain ⟨TR,hTR1,hTR2⟩:∃ TR,treeF (placeF (List.replicate ts.length 0) 0 line) (predsF ts (List.replicate ts.length []) line) K line.tail K ((List.replicate ts.length (-1)).set 0 0) = some TR ∧ r = TR.set 0 (-1):=by
  have h:=HH.out
  unfold treeOf at h
  rw [HL.out] at h
  simp only [Option.bind_some,Option.map_eq_some_iff] at h
  obtain ⟨TR,h1,h2⟩:=h
  exact ⟨TR,h1,h2.symm⟩
 have HTR:=Lib.hid hTR1
 have HTE:=Lib.hid hTR2
 clear hTR1 hTR2
 clear HD3
 clear hP hLd hTr hs1 hs2 hmk1 hmk2
 rw [← hW3]
 clear hW3
 go_loopg [7,32] (ts.length) (fun k _ v wr=>∃ (i:Nat) (T:List Int),i ≤ ts.length ∧ v = .int .i64 i ∧ Hid (i + k = ts.length) ∧ Hid (∀ q,q < i → T.getD q 0 = -1) ∧ Hid (TrW w3 wr ts.length T (List.replicate ts.length 0) (List.replicate ts.length zH) (List.replicate ts.length [])))
 case atStart=>exact ⟨0,_,by omega,rfl,Lib.hid (by omega),Lib.hid (fun q hq=>by omega),HTW0⟩
 case round=>
  clear HTW0
  obtain ⟨i,T,hi,rfl,HJ,HTl,HW⟩:=hrel
  by_cases hlt:i < ts.length
  ·have cT:=HW.out.tr.cell (i:=i) (by have:=HW.out.l1;omega)
   have fT:=HW.out.tr.frozen i
   have mts:=HT.out
   go_wp2
   have HT2:Hid (∀ q,q < i + 1 → (T.set i (-1)).getD q 0 = -1):=Lib.hid (by
    have hTl:=HW.out.l1
    refine fun q hq=>?_
    rw [List.getD_eq_getElem?_getD,List.getElem?_set]
    by_cases e:i = q
    ·subst e;rw [if_pos rfl,if_pos (by omega)];rfl
    ·rw [if_neg e,← List.getD_eq_getElem?_getD];exact HTl.out q (by omega))
   have HW2:=Lib.hid (HW.out.setT i (-1))
   go_roundg (gk - 1)
   case measure=>have:=HJ.out;omega
   case rel=>exact ⟨i + 1,_,by omega,by go_num,Lib.hid (by have:=HJ.out;omega),HT2,HW2⟩
  ·have hTT:T = List.replicate ts.length (-1):=by
    have hl:=HW.out.l1
    apply List.ext_getElem
    ·simp [hl]
    ·intro q h1 h2
     have:=HTl.out q (by omega)
     rw [List.getD_eq_getElem?_getD,List.getElem?_eq_getElem h1] at this
     simpa using this
   rw [hTT] at HW
   clear HTl hTT HJ
   generalize hPF:placeF (List.replicate ts.length 0) 0 line = PF at *
   generalize hRF:predsF ts (List.replicate ts.length []) line = RF at *
   have HPF:=Lib.hid hPF
   have HRF:=Lib.hid hRF
   clear hPF hRF
   go_wp2
   clear hi hlt
   have HW1:=HW
   clear HW
   go_loopg [8,9,11,41] (line.length) (fun k _ _ _ v wr=>∃ (i:Nat) (P:List Int) (hs:List Hd) (rs:List (List Int)),i ≤ line.length ∧ v = .int .i64 i ∧ Hid (i + k = line.length) ∧ Hid (PF = placeF P i (line.drop i)) ∧ Hid (RF = predsF ts rs (line.drop i)) ∧ Hid (TrW w3 wr ts.length (List.replicate ts.length (-1)) P hs rs) ∧ Hid (∀ j,(rs.getD j []).length ≤ 2 * i))
   case atStart=>exact ⟨0,_,_,_,by omega,rfl,Lib.hid (by omega),Lib.hid (by simpa using HPF.out.symm),Lib.hid (by simpa using HRF.out.symm),HW1,Lib.hid (fun j=>by simp [List.getD_eq_getElem?_getD,List.getElem?_replicate];split <;> simp)⟩
   case round=>
    clear HW1
    obtain ⟨i,P,hs,rs,hi,rfl,HJ,HPF2,HRF2,HW,HN⟩:=hrel
    by_cases hlt:i < line.length
    ·obtain ⟨ad,hA,q0⟩:=int_at (Kd.C_below HLC.out HW.out.below) hlt
     obtain rfl:=hA
     have hx:=List.all_eq_true.1 HI.out _ (mem_getD 0 hlt)
     have HPF3:=Lib.hid (placeF_step hlt HPF2.out)
     have HRF3:=Lib.hid (predsF_step hlt HRF2.out)
     generalize line.getD i 0 = x at *
     have HX:=Lib.hid hx
     obtain ⟨x0,x1⟩:=inB_iff hx
     have cP:=HW.out.pl.cell (i:=x.toNat) (by have:=HW.out.l2;omega)
     have fP:=HW.out.pl.frozen x.toNat
     have HW2:=Lib.hid (HW.out.setP x.toNat (i:Int))
     obtain ⟨ad1,A0,c0,hA1,h1,h2,h3⟩:=at_L2 HR.out x x0 x1
     obtain rfl:=hA1
     have h1':=pw_cell_below (below_then HB3.out HB3.out.size HW2.out.below) h1
     have hrb:rd_L2 ts x = ts.getD x.toNat []:=rfl
     rw [hrb] at h1 h1' h2 h3
     have h4:(ts.getD x.toNat []).length ≤ 2:=H2.out x.toNat (by omega)
     have H4:=Lib.hid h4
     have HGB:=Lib.hid (goodB_row HG.out x hx)
     have HT0:=Lib.hid h3
     have mt:=h3.2.1
     have mts:=HT.out
     have mln:=HLN.out
     have HX:=Lib.hid hx
     clear hrb hx h3 h1 h4
     generalize ts.getD x.toNat [] = t at *
     generalize hPL:addAll x rs t = PL at *
     have HPL:=Lib.hid hPL.symm
     clear hPL
     go_wp2
     clear HPF2 HRF2 HW cP fP h1' q0
     generalize P.set x.toNat (i:Int) = P2 at *
     have HW3:=HW2
     have HN3:=HN
     clear HW2 HN
     generalize gk = gk1 at *
     go_loopg [11,55] (t.length) (fun k _ v wr=>∃ (j:Nat) (hs:List Hd) (rs:List (List Int)),j ≤ t.length ∧ v = .int .i64 j ∧ Hid (j + k = t.length) ∧ Hid (PL = addAll x rs (t.drop j)) ∧ Hid (TrW w3 wr ts.length (List.replicate ts.length (-1)) P2 hs rs) ∧ Hid (∀ q,(rs.getD q []).length ≤ 2 * i + j))
     case atStart=>exact ⟨0,_,_,by omega,rfl,Lib.hid (by omega),Lib.hid (by simpa using HPL.out),HW3,Lib.hid (by simpa using HN3.out)⟩
     case round=>
      clear HW3 HN3 HPL
      obtain ⟨j,hs,rs,hj,rfl,HJ2,HPL,HW,HN⟩:=hrel
      by_cases hlt2:j < t.length
      ·obtain ⟨ad,hA,hcell⟩:=int_at (Kd.C_below HT0.out (below_then HB3.out HB3.out.size HW.out.below)) hlt2
       obtain rfl:=hA
       obtain ⟨y0,y1⟩:=inB_iff (HGB.out _ (mem_getD 0 hlt2))
       have HPL2:=Lib.hid (addAll_step hlt2 HPL.out)
       have hcl:(t.getD j 0).toNat < hs.length:=by have:=HW.out.l3;omega
       have HCL:=Lib.hid hcl
       generalize t.getD j 0 = y at *
       have hc:=HW.out.ld.cell hcl
       obtain ⟨hd,hhd⟩:∃ hd,hd = hs.getD y.toNat zH:=⟨_,rfl⟩
       rw [← hhd] at hc
       have HGD:=Lib.hid hhd
       unfold encH at hc
       clear hhd hcl
       go_wp2_with (at_builtin;refine stop_intro ?_)
       unfold Stop
       have hR:=HW.out.ld.row _ HCL.out
       rw [← HGD.out] at hR
       have hbs:=HW.out.below.size
       have hsz:=HW.out.tr.lt
       refine Kd.R_append (Kd.int .i64) (w0:=wr) (W:=wr) (w3.heap.size + 1 + 1 + 1) rfl (.tmp 64) (.tmp 66) 34 3 (.int .i64 0) 8 rfl Try.underlying34 info3 rfl (by decide) (by decide) (encH hd) (rs.getD y.toNat []) x [.int .i64 x] (fun _=>True) (fun _=>False) rfl rfl rfl (fun _ h=>h.elim) (fun _ _=>trivial) hR ?bel (by omega) ?len ?_
       case bel=>exact (Below.refl wr.heap.size wr).mono (by omega)
       case len=>have:=HN.out y.toNat;have:=HLN.out;have:=H4.out;omega
       intro v1 w4 hR1 _ hg1 hat1
       obtain ⟨A3,k3,e3⟩:=Kd.R_slice hR1
       obtain ⟨h1,hh1⟩:∃ h1:Hd,v1 = encH h1:=⟨⟨A3,_,k3⟩,e3⟩
       subst hh1
       rw [HGD.out] at hg1 hat1
       have hblk:=HW.out.ld.grown_blk HCL.out hg1
       have HW4:=Lib.hid (HW.out.app HCL.out hR1 hg1 hat1)
       have hc3:w4.cell? ⟨w3.heap.size + 1,y.toNat,none⟩ = some (encH hd):=by
        rw [blk_cell hblk,HGD.out];have:=HCL.out;simp [List.getD_eq_getElem?_getD,this]
       have hf3:=blk_frozen hblk y.toNat
       have HN4:=Lib.hid (addAt_len (c:=y.toNat) (x:=x) HN.out)
       clear hblk hg1 hat1 hR hR1 e3 hbs hsz
       obtain ⟨h1a,h1n,h1c⟩:=h1
       obtain ⟨hda,hdn,hdc⟩:=hd
       unfold encH at hc3
       unfold encH
       go_wp2
       go_roundg (gk - 1)
       case measure=>have:=HJ2.out;omega
       case rel=>exact ⟨j + 1,_,_,by omega,by go_num,Lib.hid (by have:=HJ2.out;omega),HPL2,HW4,Lib.hid (fun q=>Nat.le_trans (HN4.out q) (by omega))⟩
      ·have HPE:Hid (PL = rs):=Lib.hid (by rw [HPL.out,List.drop_eq_nil_of_le (by omega),addAll])
       go_wp2
       go_roundg (gk1 - 1)
       case measure=>have:=HJ.out;omega
       case rel=>exact ⟨i + 1,P2,hs,rs,by omega,by go_num,Lib.hid (by have:=HJ.out;omega),HPF3,by rw [← HPE.out];exact HRF3,HW,Lib.hid (fun q=>by have:=HN.out q;have:=H4.out;omega)⟩
    ·have hP2:P = PF:=by rw [HPF2.out,List.drop_eq_nil_of_le (by omega),placeF]
     have hR2:rs = RF:=by rw [HRF2.out,List.drop_eq_nil_of_le (by omega),predsF]
     rw [hP2,hR2] at HW
     clear hP2 hR2 HPF2 HRF2 HN
     have hn0:=HG0.out
     have cT:=HW.out.tr.cell (i:=0) (by simpa using hn0)
     have fT:=HW.out.tr.frozen 0
     have HW2:=Lib.hid (HW.out.setT 0 0)
     obtain ⟨i34,hi34,_⟩:=Option.map_eq_some_iff.1 info3
     obtain ⟨A7,hcut,hread,hlc⟩:=print_cut_int (P:=Try.prog) (k:=.i64) 34 3 Try.underlying34 hi34 (by have:=info3;rw [hi34] at this;simpa using (congrArg (fun o=>o.map (fun q=>q.2.1)) this)) A6 c6 line 1 (by omega) (by have:=HLP.out;omega) (HLP.out.2)
     rw [show ((1:Int).toNat) = 1 from rfl] at hcut hread hlc
     have HC7:=Lib.hid (C_of_ri (hread _ (ri_of_C HLC.out)))
     have HLC7:=Lib.hid hlc
     have HTA:Hid (line.tail = line.drop 1):=Lib.hid (by simp)
     have HIN7:Hid (∀ x ∈ line.drop 1,inB ts.length x = true):=Lib.hid (fun x hx=>List.all_eq_true.1 HI.out x (List.mem_of_mem_drop hx))
     have hm7:(line.drop 1).length ≤ 2000000:=by have:=HLN.out;simp;omega
     generalize line.drop 1 = LT at *
     rw [HTA.out] at HTR
     generalize c6 - 1 = c7 at *
     clear hread hlc hi34 HLC
     clear HW
     go_wp2
     clear cT fT
     obtain ⟨T0,hT0⟩:∃ T0,(List.replicate ts.length (-1:Int)).set 0 0 = T0:=⟨_,rfl⟩
     rw [hT0] at HTR HW2
     clear hT0
     have HW9:=HW2
     clear HW2
     go_loopg [12,14,15] K (fun k v12 _ _ wr=>∃ (ch:Bool) (T:List Int),v12 = .bool ch ∧ Hid (if ch = true then treeF PF RF K LT k T = some TR else T = TR) ∧ Hid (TrW w3 wr ts.length T PF hs RF))
     case atStart=>exact ⟨true,T0,rfl,Lib.hid (by rw [if_pos rfl];exact HTR.out),HW9⟩
     case round=>
      clear HW9
      obtain ⟨ch,T,rfl,HQ,HW⟩:=hrel
      cases ch with
      | false=>
        have hTE:T = TR:=by have:=HQ.out;rwa [if_neg (by decide)] at this
        rw [hTE] at HW
        have hn1:=HG0.out
        have cT:=HW.out.tr.cell (i:=0) (by have:=HW.out.l1;omega)
        have fT:=HW.out.tr.frozen 0
        have HW3:=Lib.hid (HW.out.setT 0 (-1))
        clear HQ hTE HW
        go_wp2
        go_ret
        refine ⟨w3.heap.size + 1 + 1,rfl,Lib.hid ⟨?_,?_,?_⟩,below_then HB3.out HB3.out.size HW3.out.below⟩
        ·rw [HTE.out];exact HW3.out.tr
        ·rw [HTE.out];exact HW3.out.l1
        ·have:=HB3.out.size;omega
      | true=>
        obtain ⟨k1,hk1⟩:∃ k1,gk = k1 + 1:=by
         cases gk with
         | zero=>have:=HQ.out;rw [if_pos rfl] at this;cases this
         | succ z=>exact ⟨z,rfl⟩
        obtain ⟨T2,c2,hp,hq⟩:∃ T2 c2,passF PF RF K T false LT = some (T2,c2) ∧ (if c2 = true then treeF PF RF K LT k1 T2 = some TR else T2 = TR):=by
         have h:=HQ.out
         rw [if_pos rfl,hk1,treeF] at h
         split at h
         ·rename_i T2 hp;exact ⟨T2,true,hp,by rw [if_pos rfl];exact h⟩
         ·rename_i T2 hp;exact ⟨T2,false,hp,by rw [if_neg (by decide)];injection h⟩
         ·cases h
        have HK1:=Lib.hid hk1
        have HP:=Lib.hid hp
        have HQ2:=Lib.hid hq
        clear hk1 hp hq HQ
        generalize gk = gk1 at *
        go_wp2
        have HW9:=HW
        clear HW
        go_loopg [12,14,15,77] (LT.length) (fun k v12 _ _ v wr=>∃ (i:Nat) (c':Bool) (T':List Int),i ≤ LT.length ∧ v = .int .i64 i ∧ v12 = .bool c' ∧ Hid (i + k = LT.length) ∧ Hid (passF PF RF K T' c' (LT.drop i) = some (T2,c2)) ∧ Hid (TrW w3 wr ts.length T' PF hs RF))
        case atStart=>exact ⟨0,false,T,by omega,rfl,rfl,Lib.hid (by omega),Lib.hid (by simpa using HP.out),HW9⟩
        case round=>
         clear HW9
         obtain ⟨i,c',T',hi,rfl,rfl,HJ5,HP5,HW⟩:=hrel
         by_cases hlt:i < LT.length
         ·obtain ⟨ad,hA,q0⟩:=int_at (Kd.C_below HC7.out HW.out.below) hlt
          obtain rfl:=hA
          have hx:=HIN7.out _ (mem_getD 0 hlt)
          obtain ⟨m,hm,hnx⟩:=passF_step hlt HP5.out
          generalize LT.getD i 0 = x at *
          obtain ⟨x0,x1⟩:=inB_iff hx
          have hcl:x.toNat < hs.length:=by have:=HW.out.l3;omega
          have hc:=HW.out.ld.cell hcl
          obtain ⟨e1,e2,e3⟩:=HW.out.ld.C hcl
          generalize hs.getD x.toNat zH = hd at *
          obtain ⟨hda,hdn,hdc⟩:=hd
          unfold encH at hc
          simp only at e1 e2 e3 hc
          subst e1
          have HTC:=Lib.hid (HW.out.tr.C (by have:=HW.out.l1;have:=HT.out;omega))
          have HPC:=Lib.hid (HW.out.pl.C (by have:=HW.out.l2;have:=HT.out;omega))
          have HE3:=Lib.hid e3
          have HM:=Lib.hid hm
          have HNX:=Lib.hid hnx
          have HIX:Hid (x.toNat < T'.length):=Lib.hid (by have:=HW.out.l1;omega)
          have mrf:=e3.2.1
          clear e3 hm hnx hcl hx
          generalize RF.getD x.toNat [] = L at *
          obtain ⟨tb,htb⟩:∃ tb,T'.getD x.toNat 0 = tb:=⟨_,rfl⟩
          rw [htb] at HNX
          have HTB:=Lib.hid htb
          clear htb
          by_cases hmt:m = tb
          ·subst hmt
           go_wp2_with (first | (go_at_call 85;with_reducible refine Calls.mono (met_n T' PF L _ _ _ _ _ _ K _ m _ HTC.out HPC.out HE3.out HW.out.l1 HW.out.l2 rfl (Nat.le_refl _) (Nat.le_refl _) e2 HM.out) ?_;rintro e w5 ⟨rfl,hb5⟩;have HW5:=Lib.hid (HW.out.then_ hb5);have cT5:=HW5.out.tr.cell HIX.out;rw [HTB.out] at cT5;clear hb5) | (go_at_call 85;refine stop_intro ?_))
           go_roundg (gk - 1)
           case measure=>have:=HJ5.out;omega
           case rel=>exact ⟨i + 1,c',T',by omega,by go_num,rfl,Lib.hid (by have:=HJ5.out;omega),Lib.hid (by have:=HNX.out;simpa using this),HW5⟩
          ·go_wp2_with (first | (go_at_call 85;with_reducible refine Calls.mono (met_n T' PF L _ _ _ _ _ _ K _ m _ HTC.out HPC.out HE3.out HW.out.l1 HW.out.l2 rfl (Nat.le_refl _) (Nat.le_refl _) e2 HM.out) ?_;rintro e w5 ⟨rfl,hb5⟩;have HW5:=Lib.hid (HW.out.then_ hb5);have cT5:=HW5.out.tr.cell HIX.out;rw [HTB.out] at cT5;have fT5:=HW5.out.tr.frozen x.toNat;clear hb5) | (go_at_call 85;refine stop_intro ?_))
           go_roundg (gk - 1)
           case measure=>have:=HJ5.out;omega
           case rel=>exact ⟨i + 1,true,_,by omega,by go_num,rfl,Lib.hid (by have:=HJ5.out;omega),Lib.hid (by have:=HNX.out;rwa [if_neg hmt] at this),Lib.hid (HW5.out.setT x.toNat m)⟩
         ·have HE:Hid (T' = T2 ∧ c' = c2):=Lib.hid (by
           have h:=HP5.out
           rw [List.drop_eq_nil_of_le (by omega),passF] at h
           injection h with h
           injection h with h1 h2
           exact ⟨h1,h2⟩)
          go_wp2
          go_roundg k1
          case measure=>have:=HK1.out;omega
          case rel=>exact ⟨c',T',rfl,by rw [HE.out.1,HE.out.2];exact HQ2,HW⟩
end Go.Proofs.Ytgbeliajhccndaa
