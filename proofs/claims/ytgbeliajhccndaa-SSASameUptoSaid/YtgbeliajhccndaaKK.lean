/- Lemmas of this claim (SI,SJ). -/
import Derived.Test.YtgbeliajhccndaaKJ
section
set_option linter.unusedVariables false
set_option linter.unusedSimpArgs false
namespace Go.Proofs.Ytgbeliajhccndaa
open Go.RowKit Go.Proofs.YtgbeliajhccndaaW.PrintWords Go.Proofs.YtgbeliajhccndaaW.PrintLast Go.Proofs.YtgbeliajhccndaaW.PrintMore PP
def callB (f h:S38):List Int → List Int → Bool
 | [],_=>true
 | _ :: _,[]=>false
 | a :: r,q :: s=>(typeOf h q != 0 && typeOf f a == typeOf h q) && callB f h r s
theorem call_step {f h:S38} {l s:List Int} {i:Nat} (hi:i < l.length) (hs:i < s.length):callB f h (l.drop i) (s.drop i) = ((typeOf h (s.getD i 0) != 0 && typeOf f (l.getD i 0) == typeOf h (s.getD i 0)) && callB f h (l.drop (i + 1)) (s.drop (i + 1))):=by
 rw [List.drop_eq_getElem_cons hi,List.drop_eq_getElem_cons hs,callB]
 simp [List.getD_eq_getElem?_getD,hi,hs]
def calledB (d:Ck) (t im:Int) (l:List Int):Bool:=callB d.f (rd_T38 d.fs im) l (rd_T38 d.fs im).f1 && t == (rd_T38 d.fs im).f2
set_option maxHeartbeats 4000000 in
theorem called_any (g:Nat) (d:Ck) (v3 v4 v5 v6:Value) (o t im:Int) (B:Option Addr) (kk:Nat) (l:List Int) (w:World) (h:CkW w g d v3 v4 v5 v6)
 (hr:(Kd.int .i64).C w B l.length l) (hk:l.length ≤ kk) (him:inB d.fs.length im = true) (hl:l.length = (rd_T38 d.fs im).f1.length) (hin:l.all (inB d.f.f3.length) = true) (hin2:(rd_T38 d.fs im).f1.all (inB (rd_T38 d.fs im).f3.length) = true) :
 Calls Try.prog 69 #[.pointer (some ⟨g,0,none⟩),.agg #[.int .i64 o,.int .i64 t,.int .i64 im,.slice B l.length kk]] w fun e w'=>e = .returned (.bool (calledB d t im l)) ∧ Below w.heap.size w w':=by
 have hm:=hr.2.1
 have hm3:=h.at_.r3.2.1
 have hm0:=h.fs_.2.1
 obtain ⟨i0,i1⟩:=inB_iff him
 obtain ⟨adq,Q1,k1,Q3,k3,Q4,k4,hAq,hQ⟩:=FnAt.of h.fs_ im i0 i1
 have HK:=Lib.hid h
 have HR:=Lib.hid hr
 have HI:=Lib.hid hin
 have HI2:=Lib.hid hin2
 have HQ:=Lib.hid hQ
 have hmq:=hQ.r3.2.1
 have hmq1:=hQ.r1.2.1
 have HD:Hid (calledB d t im l = (callB d.f (rd_T38 d.fs im) l (rd_T38 d.fs im).f1 && t == (rd_T38 d.fs im).f2)):=Lib.hid rfl
 have HLE:=Lib.hid hl
 have y0:=fun o=>cellO h.y0 o
 rw [hAq] at y0
 clear h hr hin hin2 hQ hl him
 generalize rd_T38 d.fs im = x at *
 go_enter Try.func69,Try.ntmps69
 go_wp2
 go_quiet (fail)
 clear y0
 go_wp2
 go_loopg [6,7,8,20] (l.length) (fun k _ _ _ v wr=>∃ i:Nat,i ≤ l.length ∧ v = .int .i64 i ∧ Hid (i + k = l.length) ∧ Hid (callB d.f x l x.f1 = callB d.f x (l.drop i) (x.f1.drop i)) ∧ Hid (Below w.heap.size w wr) ∧ Hid (wr.heap[w.heap.size]? = some (.cells #[.int .i64 o,.int .i64 t,.int .i64 im,.slice B l.length kk] 42 (0,0))))
 case atStart=>exact ⟨0,by omega,rfl,Lib.hid (by omega),Lib.hid (by simp),Lib.hid (pw_below_drewN (below_alloc (Below.refl _ _) _) _),Lib.hid (blk_new w _)⟩
 case round=>
  obtain ⟨i,hi,rfl,HG,HP,HB,HBK⟩:=hrel
  have z3:wr.cell? ⟨w.heap.size,3,none⟩ = some (.slice B l.length kk):=(blk_cell HBK.out 3).trans rfl
  have z1:wr.cell? ⟨w.heap.size,1,none⟩ = some (.int .i64 t):=(blk_cell HBK.out 1).trans rfl
  have q2:=(HQ.out.below HB.out).c2
  by_cases hlt:i < l.length
  ·obtain ⟨ad,hA,r0⟩:=int_at (Kd.C_below HR.out HB.out) hlt
   have hlt2:i < x.f1.length:=by have:=HLE.out;omega
   obtain ⟨ad2,hA2,r1⟩:=int_at (i:=i) (HQ.out.below HB.out).r1 hlt2
   have ha:=List.all_eq_true.1 HI.out _ (mem_getD 0 hlt)
   have hb:=List.all_eq_true.1 HI2.out _ (mem_getD 0 hlt2)
   have HE:=Lib.hid (HP.out.trans (call_step hlt hlt2))
   generalize l.getD i 0 = a at *
   generalize x.f1.getD i 0 = b at *
   have q1:=(HQ.out.below HB.out).c1
   have q3:=(HQ.out.below HB.out).c3
   obtain ⟨ad3,B3,d3,hA3,_,t3,_,_,_,_⟩:=val_at (HK.out.below HB.out).at_.r3 ha
   obtain ⟨ad4,B4,d4,hA4,_,t4,_,_,_,_⟩:=val_at (HQ.out.below HB.out).r3 hb
   have y2:=(HK.out.below HB.out).y2
   have x3:=(HK.out.below HB.out).at_.c3
   rw [hA3] at x3
   obtain rfl:=hA
   rw [hA2] at q1
   rw [hA4] at q3
   obtain ⟨a0,a1⟩:=inB_iff ha
   obtain ⟨b0,b1⟩:=inB_iff hb
   clear ha hb hA2 hA3 hA4
   generalize typeOf d.f a = ty at *
   generalize typeOf x b = tz at *
   by_cases h0:tz = 0
   ·subst h0
    go_wp2
    go_quiet (fail)
    go_wp2
    go_ret
    exact ⟨ret_bool (by rw [HD.out,HE.out];rfl),pw_below_drewN HB.out _⟩
   ·have h0':(tz == 0) = false:=by simpa using h0
    by_cases he:ty = tz
    ·subst he
     go_wp2
     go_quiet (fail)
     go_wp2
     go_roundg (gk - 1)
     case measure=>have:=HG.out;omega
     case rel=>exact ⟨i + 1,by omega,by go_num,Lib.hid (by have:=HG.out;omega),Lib.hid (by have:=HE.out;rw [(by simpa using h0:(ty != 0) = true)] at this;simpa using this),Lib.hid (pw_below_drewN HB.out _),HBK⟩
    ·have he1:(ty != tz) = true:=by simpa using he
     have he2:(ty == tz) = false:=by simpa using he
     go_wp2
     go_quiet (fail)
     go_wp2
     go_ret
     exact ⟨ret_bool (by rw [HD.out,HE.out,he2];simp),pw_below_drewN HB.out _⟩
  ·have HE:Hid (callB d.f x l x.f1 = true):=Lib.hid (by rw [HP.out,List.drop_eq_nil_of_le (by omega),callB])
   go_wp2
   go_quiet (fail)
   go_wp2
   go_ret
   exact ⟨ret_bool (by rw [HD.out,HE.out];rfl),pw_below_drewN HB.out _⟩
theorem called_b (g:Nat) (d:Ck) (v3 v4 v5 v6:Value) (o t im:Int) (B:Option Addr) (kk:Nat) (l:List Int) (w:World) (h:CkW w g d v3 v4 v5 v6)
 (hr:(Kd.int .i64).C w B l.length l) (hk:l.length ≤ kk) (him:inB d.fs.length im = true) (hl:l.length = (rd_T38 d.fs im).f1.length) (hin:l.all (inB d.f.f3.length) = true) (hin2:(rd_T38 d.fs im).f1.all (inB (rd_T38 d.fs im).f3.length) = true) :
 Calls Try.prog 69 #[.pointer (some ⟨g,0,none⟩),.agg #[.int .i64 o,.int .i64 t,.int .i64 im,.slice B l.length kk]] w fun e w'=>∃ b,e = .returned (.bool b) ∧ Hid (calledB d t im l = b) ∧ Below w.heap.size w w':=
 (called_any g d v3 v4 v5 v6 o t im B kk l w h hr hk him hl hin hin2).mono (fun e w' h=>⟨_,h.1,Lib.hid rfl,h.2⟩)
theorem are_b (g:Nat) (d:Ck) (v3 v4 v5 v6:Value) (o t im:Int) (B:Option Addr) (k:Nat) (l:List Int) (S:Option Addr) (ks:Nat) (s:List Int) (w:World) (h:CkW w g d v3 v4 v5 v6)
 (hr:(Kd.int .i64).C w B l.length l) (hk:l.length ≤ k) (hs:(Kd.int .i64).C w S s.length s) (hks:s.length ≤ ks) (hl:l.length ≤ s.length) (hin:l.all (inB d.f.f3.length) = true) :
 Calls Try.prog 68 #[.pointer (some ⟨g,0,none⟩),.agg #[.int .i64 o,.int .i64 t,.int .i64 im,.slice B l.length k],.slice S s.length ks] w fun e w'=>∃ b,e = .returned (.bool b) ∧ Hid (areB d.f l s = b) ∧ Below w.heap.size w w':=
 (are_any g d v3 v4 v5 v6 o t im B k l S ks s w h hr hk hs hks hl hin).mono (fun e w' h=>⟨_,h.1,Lib.hid rfl,h.2⟩)
set_option maxHeartbeats 2000000 in
theorem same_any (g g2 g3:Nat) (d:Ck) (v3 v4 v5 v6:Value) (t a:Int) (w:World) (h:CkW w g d v3 v4 v5 v6) (h2:w.cell? ⟨g2,0,none⟩ = some (.pointer (some ⟨g,0,none⟩))) (h3:w.cell? ⟨g3,1,none⟩ = some (.int .i64 t)) (ha:inB d.f.f3.length a = true) :
 Calls Try.prog 70 #[.int .i64 a,.pointer (some ⟨g2,0,none⟩),.pointer (some ⟨g3,0,none⟩)] w fun e w'=>e = .returned (.bool (typeOf d.f a == t)) ∧ Below w.heap.size w w':=by
 obtain ⟨ad3,B3,d3,hA3,_,t3,_,_,_,_⟩:=val_at h.at_.r3 ha
 have hm3:=h.at_.r3.2.1
 have y2:=h.y2
 have x3:=h.at_.c3
 rw [hA3] at x3
 obtain ⟨a0,a1⟩:=inB_iff ha
 clear ha h hA3
 generalize typeOf d.f a = ty at *
 go_enter Try.func70,Try.ntmps70
 go_wp2
 go_quiet (fail)
 go_wp2
 go_ret
 exact ⟨rfl,pw_below_drewN (Below.refl _ _) _⟩
theorem enter70 (args:Array Value) (w:World):(callFunc 70 args).run Try.prog w = .ok (.enter 70 args) w:=run_enter Try.func70 (by kernel_rfl) (by kernel_rfl) args w
theorem add_zero (ad:Addr):ad.add 0 = ad:=by unfold Addr.add;simp
theorem lit_reads (W:World) (s:List Int) (hs:s.length ≤ 9):(Kd.int .i64).C (W.alloc (.cells (s.map (Value.int .i64)).toArray 3)) (some ⟨W.heap.size,0,none⟩) s.length s:=by
 refine ⟨rfl,by omega,fun _=>⟨_,rfl,fun j x hj=>⟨[.int .i64 x],rfl,rfl,fun i u hu=>?_⟩⟩⟩
 have hi:i = 0:=by
  cases i with
  | zero=>rfl
  | succ n=>simp at hu
 subst hi
 simp at hu
 subst hu
 have e:(⟨W.heap.size,0,none⟩:Addr).add (j * 1 + 0) = ⟨W.heap.size,j,none⟩:=by rw [add_plain];simp
 show (W.alloc (.cells (s.map (Value.int .i64)).toArray 3)).cell? ((⟨W.heap.size,0,none⟩:Addr).add (j * 1 + 0)) = _
 rw [e,blk_cell (blk_new W _) j]
 simp [hj]
def wantB (o:Int):List Int × Int:=
 if o = 15 ∨ o = 16 then ([1,1],2) else if o = 19 then ([2],2) else if o = 20 then ([3],1) else if o = 21 then ([3,1],1) else if o = 22 then ([3,1,1],0) else if o = 23 then ([1],3)
 else if o = 27 then ([2],0) else if o = 26 ∨ o = 28 ∨ o = 29 ∨ o = 30 then ([1,1],0) else ([1,1],1)
def fitsB (d:Ck) (v:S42):Bool:=
 if v.f0 = 1 then v.f1 == 1 || (v.f1 == 2 && (v.f2 == 0 || v.f2 == 1)) || (v.f1 == 3 && v.f2 == 0)
 else if v.f0 = 13 ∨ v.f0 = 14 then (v.f1 == 2 && typeOf d.f (v.f3.getD 0 0) != 0) && areB d.f v.f3 [typeOf d.f (v.f3.getD 0 0),typeOf d.f (v.f3.getD 0 0)]
 else if v.f0 = 25 then calledB d v.f1 v.f2 v.f3
 else if v.f0 = 32 then v.f1 != 0 && v.f3.all (fun a=>typeOf d.f a == v.f1)
 else if v.f0 = 33 then v.f1 != 0
 else v.f1 == (wantB v.f0).2 && areB d.f v.f3 (wantB v.f0).1
theorem fits_const {d:Ck} {t im:Int} {l:List Int} (h2:¬ t = 2) (h3:¬ t = 3):(t == 1) = fitsB d ⟨1,t,im,l⟩:=by
 have h2:(t == 2) = false:=by simpa using h2
 have h3:(t == 3) = false:=by simpa using h3
 simp only [fitsB,if_true,h2,h3];simp
theorem val_two {fs:List S38} {o t im:Int} {l:List Int} (h:valueB fs ⟨o,t,im,l⟩ = true) (ho:¬ (o = 25 ∨ o = 32 ∨ o = 22)):l.length ≤ 2:=by
 have h1:operandsI o ≤ 2:=by unfold operandsI;repeat' split <;> omega
 unfold valueB at h
 dsimp only at h
 rw [Bool.and_eq_true] at h
 obtain ⟨_,h⟩:=h
 repeat' split at h
 all_goals (simp only [Bool.and_eq_true,beq_iff_eq,decide_eq_true_eq] at h;omega)
theorem val25 {fs:List S38} {t im:Int} {l:List Int} (h:valueB fs ⟨25,t,im,l⟩ = true):inB fs.length im = true ∧ l.length = (rd_T38 fs im).f1.length:=by
 have e:valueB fs ⟨25,t,im,l⟩ = (decide (0 ≤ t) && decide (t ≤ 3) && (decide (0 ≤ im) && decide (im < (fs.length:Int)) && (l.length:Int) == ((rd_T38 fs im).f1.length:Int))):=rfl
 rw [e] at h
 simp only [Bool.and_eq_true,beq_iff_eq] at h
 exact ⟨by unfold inB;rw [h.2.1.1,h.2.1.2];rfl,by have:=h.2.2;omega⟩
theorem val13 {fs:List S38} {o t im:Int} {l:List Int} (h:valueB fs ⟨o,t,im,l⟩ = true) (ho:o = 13 ∨ o = 14):l.length = 2:=by
 have e:valueB fs ⟨o,t,im,l⟩ = (decide (0 ≤ t) && decide (t ≤ 3) && (decide ((0:Int) ≤ 2) && (l.length:Int) == 2 && im == 0)):=by rcases ho with rfl | rfl <;> rfl
 rw [e] at h
 simp only [Bool.and_eq_true,beq_iff_eq] at h
 have:=h.2.1.2
 omega
set_option maxRecDepth 100000 in
set_option maxHeartbeats 4000000 in
theorem fits_any (g:Nat) (d:Ck) (v3 v4 v5 v6:Value) (v:S42) (B:Option Addr) (kk:Nat) (w:World) (h:CkW w g d v3 v4 v5 v6)
 (hr:(Kd.int .i64).C w B v.f3.length v.f3) (hk:v.f3.length ≤ kk) (hv:valueB d.fs v = true) (hin:v.f3.all (inB d.f.f3.length) = true) (hfun:∀ i,inB d.fs.length i = true → (rd_T38 d.fs i).f1.all (inB (rd_T38 d.fs i).f3.length) = true) :
 Calls Try.prog 46 #[.pointer (some ⟨g,0,none⟩),.agg #[.int .i64 v.f0,.int .i64 v.f1,.int .i64 v.f2,.slice B v.f3.length kk]] w fun e w'=>e = .returned (.bool (fitsB d v)) ∧ Below w.heap.size w w':=by
 have HK:=Lib.hid h
 have HR:=Lib.hid hr
 have HV:=Lib.hid hv
 have HI:=Lib.hid hin
 have HF:=Lib.hid hfun
 clear h hr hv hin hfun
 obtain ⟨o,t,im,l⟩:=v
 dsimp only
 by_cases h1:o = 1
 ·subst h1
  go_enter Try.func46,Try.ntmps46
  go_wp2
  all_goals
   go_ret
   exact ⟨ret_bool (by first | (simp [fitsB];done) | exact fits_const ‹¬t = 2› ‹¬t = 3›),below_alloc (below_alloc (Below.refl _ _) _) _⟩
 have HK2:Hid (∀ O O',CkW ((w.alloc O).alloc O') g d v3 v4 v5 v6):=Lib.hid (fun O O'=>(HK.out.below (below_alloc (Below.refl _ _) O)).below (below_alloc (Below.refl _ _) O'))
 have HB2:Hid (∀ O O',Below w.heap.size w ((w.alloc O).alloc O')):=Lib.hid (fun O O'=>below_alloc (below_alloc (Below.refl _ _) O) O')
 have LIT:Hid (∀ (O O':Obj) (s:List Int),s.length ≤ 9 → (Kd.int .i64).C (((w.alloc O).alloc O').alloc (.cells (s.map (Value.int .i64)).toArray 3)) (some ⟨w.heap.size + 1 + 1,0,none⟩) s.length s):=Lib.hid (fun O O' s hs=>by
  have h:=lit_reads ((w.alloc O).alloc O') s hs
  rwa [World.size_alloc,World.size_alloc] at h)
 have HB3:Hid (∀ O O' O'',Below w.heap.size w (((w.alloc O).alloc O').alloc O'')):=Lib.hid (fun O O' O''=>below_alloc (HB2.out O O') O'')
 have HK3:Hid (∀ O O' O'',CkW (((w.alloc O).alloc O').alloc O'') g d v3 v4 v5 v6):=Lib.hid (fun O O' O''=>(HK2.out O O').below (below_alloc (Below.refl _ _) O''))
 by_cases h15:o = 15
 ·subst h15
  have HLE:Hid (l.length ≤ ([1,1]:List Int).length):=Lib.hid (by have h:=HV.out;simp [valueB,operandsI] at h;simp;omega)
  have HKS:Hid (([1,1]:List Int).length ≤ 2):=Lib.hid (by decide)
  have LITS:Hid (∀ O O':Obj,(Kd.int .i64).C (((w.alloc O).alloc O').alloc (.cells #[.int .i64 1,.int .i64 1] 3)) (some ⟨w.heap.size + 1 + 1,0,none⟩) ([1,1]:List Int).length [1,1]):=Lib.hid (fun O O'=>LIT.out O O' [1,1] (by decide))
  have HD:Hid (fitsB d ⟨15,t,im,l⟩ = (t == 2 && areB d.f l [1,1])):=Lib.hid rfl
  by_cases ht:t = 2
  ·subst ht
   go_enter Try.func46,Try.ntmps46
   go_wp2_with (first | (go_at_call 68;with_reducible refine Calls.mono (are_b g d v3 v4 v5 v6 15 2 im B kk l (some ⟨w.heap.size + 1 + 1,0,none⟩) 2 [1,1] _ ?_ ?_ hk ?_ HKS.out HLE.out HI.out) ?_;exact HK3.out _ _ _;exact Kd.C_below HR.out (HB3.out _ _ _);exact LITS.out _ _;rintro e w2 ⟨b,rfl,HA,hb⟩;have HBf:=Lib.hid (below_then (HB3.out _ _ _) (HB3.out _ _ _).size hb);clear hb) | (go_at_call 68;refine stop_intro ?_))
   go_ret
   exact ⟨ret_bool (by rw [HD.out,HA.out];rfl),HBf.out⟩
  ·have ht':(t == 2) = false:=by simpa using ht
   go_enter Try.func46,Try.ntmps46
   go_wp2
   go_ret
   exact ⟨ret_bool (by rw [HD.out,ht'];rfl),HB2.out _ _⟩
 by_cases h16:o = 16
 ·subst h16
  have HLE:Hid (l.length ≤ ([1,1]:List Int).length):=Lib.hid (by have h:=HV.out;simp [valueB,operandsI] at h;simp;omega)
  have HKS:Hid (([1,1]:List Int).length ≤ 2):=Lib.hid (by decide)
  have LITS:Hid (∀ O O':Obj,(Kd.int .i64).C (((w.alloc O).alloc O').alloc (.cells #[.int .i64 1,.int .i64 1] 3)) (some ⟨w.heap.size + 1 + 1,0,none⟩) ([1,1]:List Int).length [1,1]):=Lib.hid (fun O O'=>LIT.out O O' [1,1] (by decide))
  have HD:Hid (fitsB d ⟨16,t,im,l⟩ = (t == 2 && areB d.f l [1,1])):=Lib.hid rfl
  by_cases ht:t = 2
  ·subst ht
   go_enter Try.func46,Try.ntmps46
   go_wp2_with (first | (go_at_call 68;with_reducible refine Calls.mono (are_b g d v3 v4 v5 v6 16 2 im B kk l (some ⟨w.heap.size + 1 + 1,0,none⟩) 2 [1,1] _ ?_ ?_ hk ?_ HKS.out HLE.out HI.out) ?_;exact HK3.out _ _ _;exact Kd.C_below HR.out (HB3.out _ _ _);exact LITS.out _ _;rintro e w2 ⟨b,rfl,HA,hb⟩;have HBf:=Lib.hid (below_then (HB3.out _ _ _) (HB3.out _ _ _).size hb);clear hb) | (go_at_call 68;refine stop_intro ?_))
   go_ret
   exact ⟨ret_bool (by rw [HD.out,HA.out];rfl),HBf.out⟩
  ·have ht':(t == 2) = false:=by simpa using ht
   go_enter Try.func46,Try.ntmps46
   go_wp2
   go_ret
   exact ⟨ret_bool (by rw [HD.out,ht'];rfl),HB2.out _ _⟩
 by_cases h19:o = 19
 ·subst h19
  have HLE:Hid (l.length ≤ ([2]:List Int).length):=Lib.hid (by have h:=HV.out;simp [valueB,operandsI] at h;simp;omega)
  have HKS:Hid (([2]:List Int).length ≤ 1):=Lib.hid (by decide)
  have LITS:Hid (∀ O O':Obj,(Kd.int .i64).C (((w.alloc O).alloc O').alloc (.cells #[.int .i64 2] 3)) (some ⟨w.heap.size + 1 + 1,0,none⟩) ([2]:List Int).length [2]):=Lib.hid (fun O O'=>LIT.out O O' [2] (by decide))
  have HD:Hid (fitsB d ⟨19,t,im,l⟩ = (t == 2 && areB d.f l [2])):=Lib.hid rfl
  by_cases ht:t = 2
  ·subst ht
   go_enter Try.func46,Try.ntmps46
   go_wp2_with (first | (go_at_call 68;with_reducible refine Calls.mono (are_b g d v3 v4 v5 v6 19 2 im B kk l (some ⟨w.heap.size + 1 + 1,0,none⟩) 1 [2] _ ?_ ?_ hk ?_ HKS.out HLE.out HI.out) ?_;exact HK3.out _ _ _;exact Kd.C_below HR.out (HB3.out _ _ _);exact LITS.out _ _;rintro e w2 ⟨b,rfl,HA,hb⟩;have HBf:=Lib.hid (below_then (HB3.out _ _ _) (HB3.out _ _ _).size hb);clear hb) | (go_at_call 68;refine stop_intro ?_))
   go_ret
   exact ⟨ret_bool (by rw [HD.out,HA.out];rfl),HBf.out⟩
  ·have ht':(t == 2) = false:=by simpa using ht
   go_enter Try.func46,Try.ntmps46
   go_wp2
   go_ret
   exact ⟨ret_bool (by rw [HD.out,ht'];rfl),HB2.out _ _⟩
 by_cases h20:o = 20
 ·subst h20
  have HLE:Hid (l.length ≤ ([3]:List Int).length):=Lib.hid (by have h:=HV.out;simp [valueB,operandsI] at h;simp;omega)
  have HKS:Hid (([3]:List Int).length ≤ 1):=Lib.hid (by decide)
  have LITS:Hid (∀ O O':Obj,(Kd.int .i64).C (((w.alloc O).alloc O').alloc (.cells #[.int .i64 3] 3)) (some ⟨w.heap.size + 1 + 1,0,none⟩) ([3]:List Int).length [3]):=Lib.hid (fun O O'=>LIT.out O O' [3] (by decide))
  have HD:Hid (fitsB d ⟨20,t,im,l⟩ = (t == 1 && areB d.f l [3])):=Lib.hid rfl
  by_cases ht:t = 1
  ·subst ht
   go_enter Try.func46,Try.ntmps46
   go_wp2_with (first | (go_at_call 68;with_reducible refine Calls.mono (are_b g d v3 v4 v5 v6 20 1 im B kk l (some ⟨w.heap.size + 1 + 1,0,none⟩) 1 [3] _ ?_ ?_ hk ?_ HKS.out HLE.out HI.out) ?_;exact HK3.out _ _ _;exact Kd.C_below HR.out (HB3.out _ _ _);exact LITS.out _ _;rintro e w2 ⟨b,rfl,HA,hb⟩;have HBf:=Lib.hid (below_then (HB3.out _ _ _) (HB3.out _ _ _).size hb);clear hb) | (go_at_call 68;refine stop_intro ?_))
   go_ret
   exact ⟨ret_bool (by rw [HD.out,HA.out];rfl),HBf.out⟩
  ·have ht':(t == 1) = false:=by simpa using ht
   go_enter Try.func46,Try.ntmps46
   go_wp2
   go_ret
   exact ⟨ret_bool (by rw [HD.out,ht'];rfl),HB2.out _ _⟩
 by_cases h21:o = 21
 ·subst h21
  have HLE:Hid (l.length ≤ ([3,1]:List Int).length):=Lib.hid (by have h:=HV.out;simp [valueB,operandsI] at h;simp;omega)
  have HKS:Hid (([3,1]:List Int).length ≤ 2):=Lib.hid (by decide)
  have LITS:Hid (∀ O O':Obj,(Kd.int .i64).C (((w.alloc O).alloc O').alloc (.cells #[.int .i64 3,.int .i64 1] 3)) (some ⟨w.heap.size + 1 + 1,0,none⟩) ([3,1]:List Int).length [3,1]):=Lib.hid (fun O O'=>LIT.out O O' [3,1] (by decide))
  have HD:Hid (fitsB d ⟨21,t,im,l⟩ = (t == 1 && areB d.f l [3,1])):=Lib.hid rfl
  by_cases ht:t = 1
  ·subst ht
   go_enter Try.func46,Try.ntmps46
   go_wp2_with (first | (go_at_call 68;with_reducible refine Calls.mono (are_b g d v3 v4 v5 v6 21 1 im B kk l (some ⟨w.heap.size + 1 + 1,0,none⟩) 2 [3,1] _ ?_ ?_ hk ?_ HKS.out HLE.out HI.out) ?_;exact HK3.out _ _ _;exact Kd.C_below HR.out (HB3.out _ _ _);exact LITS.out _ _;rintro e w2 ⟨b,rfl,HA,hb⟩;have HBf:=Lib.hid (below_then (HB3.out _ _ _) (HB3.out _ _ _).size hb);clear hb) | (go_at_call 68;refine stop_intro ?_))
   go_ret
   exact ⟨ret_bool (by rw [HD.out,HA.out];rfl),HBf.out⟩
  ·have ht':(t == 1) = false:=by simpa using ht
   go_enter Try.func46,Try.ntmps46
   go_wp2
   go_ret
   exact ⟨ret_bool (by rw [HD.out,ht'];rfl),HB2.out _ _⟩
 by_cases h22:o = 22
 ·subst h22
  have HLE:Hid (l.length ≤ ([3,1,1]:List Int).length):=Lib.hid (by have h:=HV.out;simp [valueB,operandsI] at h;simp;omega)
  have HKS:Hid (([3,1,1]:List Int).length ≤ 3):=Lib.hid (by decide)
  have LITS:Hid (∀ O O':Obj,(Kd.int .i64).C (((w.alloc O).alloc O').alloc (.cells #[.int .i64 3,.int .i64 1,.int .i64 1] 3)) (some ⟨w.heap.size + 1 + 1,0,none⟩) ([3,1,1]:List Int).length [3,1,1]):=Lib.hid (fun O O'=>LIT.out O O' [3,1,1] (by decide))
  have HD:Hid (fitsB d ⟨22,t,im,l⟩ = (t == 0 && areB d.f l [3,1,1])):=Lib.hid rfl
  by_cases ht:t = 0
  ·subst ht
   go_enter Try.func46,Try.ntmps46
   go_wp2_with (first | (go_at_call 68;with_reducible refine Calls.mono (are_b g d v3 v4 v5 v6 22 0 im B kk l (some ⟨w.heap.size + 1 + 1,0,none⟩) 3 [3,1,1] _ ?_ ?_ hk ?_ HKS.out HLE.out HI.out) ?_;exact HK3.out _ _ _;exact Kd.C_below HR.out (HB3.out _ _ _);exact LITS.out _ _;rintro e w2 ⟨b,rfl,HA,hb⟩;have HBf:=Lib.hid (below_then (HB3.out _ _ _) (HB3.out _ _ _).size hb);clear hb) | (go_at_call 68;refine stop_intro ?_))
   go_ret
   exact ⟨ret_bool (by rw [HD.out,HA.out];rfl),HBf.out⟩
  ·have ht':(t == 0) = false:=by simpa using ht
   go_enter Try.func46,Try.ntmps46
   go_wp2
   go_ret
   exact ⟨ret_bool (by rw [HD.out,ht'];rfl),HB2.out _ _⟩
 by_cases h23:o = 23
 ·subst h23
  have HLE:Hid (l.length ≤ ([1]:List Int).length):=Lib.hid (by have h:=HV.out;simp [valueB,operandsI] at h;simp;omega)
  have HKS:Hid (([1]:List Int).length ≤ 1):=Lib.hid (by decide)
  have LITS:Hid (∀ O O':Obj,(Kd.int .i64).C (((w.alloc O).alloc O').alloc (.cells #[.int .i64 1] 3)) (some ⟨w.heap.size + 1 + 1,0,none⟩) ([1]:List Int).length [1]):=Lib.hid (fun O O'=>LIT.out O O' [1] (by decide))
  have HD:Hid (fitsB d ⟨23,t,im,l⟩ = (t == 3 && areB d.f l [1])):=Lib.hid rfl
  by_cases ht:t = 3
  ·subst ht
   go_enter Try.func46,Try.ntmps46
   go_wp2_with (first | (go_at_call 68;with_reducible refine Calls.mono (are_b g d v3 v4 v5 v6 23 3 im B kk l (some ⟨w.heap.size + 1 + 1,0,none⟩) 1 [1] _ ?_ ?_ hk ?_ HKS.out HLE.out HI.out) ?_;exact HK3.out _ _ _;exact Kd.C_below HR.out (HB3.out _ _ _);exact LITS.out _ _;rintro e w2 ⟨b,rfl,HA,hb⟩;have HBf:=Lib.hid (below_then (HB3.out _ _ _) (HB3.out _ _ _).size hb);clear hb) | (go_at_call 68;refine stop_intro ?_))
   go_ret
   exact ⟨ret_bool (by rw [HD.out,HA.out];rfl),HBf.out⟩
  ·have ht':(t == 3) = false:=by simpa using ht
   go_enter Try.func46,Try.ntmps46
   go_wp2
   go_ret
   exact ⟨ret_bool (by rw [HD.out,ht'];rfl),HB2.out _ _⟩
 by_cases h27:o = 27
 ·subst h27
  have HLE:Hid (l.length ≤ ([2]:List Int).length):=Lib.hid (by have h:=HV.out;simp [valueB,operandsI] at h;simp;omega)
  have HKS:Hid (([2]:List Int).length ≤ 1):=Lib.hid (by decide)
  have LITS:Hid (∀ O O':Obj,(Kd.int .i64).C (((w.alloc O).alloc O').alloc (.cells #[.int .i64 2] 3)) (some ⟨w.heap.size + 1 + 1,0,none⟩) ([2]:List Int).length [2]):=Lib.hid (fun O O'=>LIT.out O O' [2] (by decide))
  have HD:Hid (fitsB d ⟨27,t,im,l⟩ = (t == 0 && areB d.f l [2])):=Lib.hid rfl
  by_cases ht:t = 0
  ·subst ht
   go_enter Try.func46,Try.ntmps46
   go_wp2_with (first | (go_at_call 68;with_reducible refine Calls.mono (are_b g d v3 v4 v5 v6 27 0 im B kk l (some ⟨w.heap.size + 1 + 1,0,none⟩) 1 [2] _ ?_ ?_ hk ?_ HKS.out HLE.out HI.out) ?_;exact HK3.out _ _ _;exact Kd.C_below HR.out (HB3.out _ _ _);exact LITS.out _ _;rintro e w2 ⟨b,rfl,HA,hb⟩;have HBf:=Lib.hid (below_then (HB3.out _ _ _) (HB3.out _ _ _).size hb);clear hb) | (go_at_call 68;refine stop_intro ?_))
   go_ret
   exact ⟨ret_bool (by rw [HD.out,HA.out];rfl),HBf.out⟩
  ·have ht':(t == 0) = false:=by simpa using ht
   go_enter Try.func46,Try.ntmps46
   go_wp2
   go_ret
   exact ⟨ret_bool (by rw [HD.out,ht'];rfl),HB2.out _ _⟩
 by_cases h26:o = 26
 ·subst h26
  have HLE:Hid (l.length ≤ ([1,1]:List Int).length):=Lib.hid (by have h:=HV.out;simp [valueB,operandsI] at h;simp;omega)
  have HKS:Hid (([1,1]:List Int).length ≤ 2):=Lib.hid (by decide)
  have LITS:Hid (∀ O O':Obj,(Kd.int .i64).C (((w.alloc O).alloc O').alloc (.cells #[.int .i64 1,.int .i64 1] 3)) (some ⟨w.heap.size + 1 + 1,0,none⟩) ([1,1]:List Int).length [1,1]):=Lib.hid (fun O O'=>LIT.out O O' [1,1] (by decide))
  have HD:Hid (fitsB d ⟨26,t,im,l⟩ = (t == 0 && areB d.f l [1,1])):=Lib.hid rfl
  by_cases ht:t = 0
  ·subst ht
   go_enter Try.func46,Try.ntmps46
   go_wp2_with (first | (go_at_call 68;with_reducible refine Calls.mono (are_b g d v3 v4 v5 v6 26 0 im B kk l (some ⟨w.heap.size + 1 + 1,0,none⟩) 2 [1,1] _ ?_ ?_ hk ?_ HKS.out HLE.out HI.out) ?_;exact HK3.out _ _ _;exact Kd.C_below HR.out (HB3.out _ _ _);exact LITS.out _ _;rintro e w2 ⟨b,rfl,HA,hb⟩;have HBf:=Lib.hid (below_then (HB3.out _ _ _) (HB3.out _ _ _).size hb);clear hb) | (go_at_call 68;refine stop_intro ?_))
   go_ret
   exact ⟨ret_bool (by rw [HD.out,HA.out];rfl),HBf.out⟩
  ·have ht':(t == 0) = false:=by simpa using ht
   go_enter Try.func46,Try.ntmps46
   go_wp2
   go_ret
   exact ⟨ret_bool (by rw [HD.out,ht'];rfl),HB2.out _ _⟩
 by_cases h28:o = 28
 ·subst h28
  have HLE:Hid (l.length ≤ ([1,1]:List Int).length):=Lib.hid (by have h:=HV.out;simp [valueB,operandsI] at h;simp;omega)
  have HKS:Hid (([1,1]:List Int).length ≤ 2):=Lib.hid (by decide)
  have LITS:Hid (∀ O O':Obj,(Kd.int .i64).C (((w.alloc O).alloc O').alloc (.cells #[.int .i64 1,.int .i64 1] 3)) (some ⟨w.heap.size + 1 + 1,0,none⟩) ([1,1]:List Int).length [1,1]):=Lib.hid (fun O O'=>LIT.out O O' [1,1] (by decide))
  have HD:Hid (fitsB d ⟨28,t,im,l⟩ = (t == 0 && areB d.f l [1,1])):=Lib.hid rfl
  by_cases ht:t = 0
  ·subst ht
   go_enter Try.func46,Try.ntmps46
   go_wp2_with (first | (go_at_call 68;with_reducible refine Calls.mono (are_b g d v3 v4 v5 v6 28 0 im B kk l (some ⟨w.heap.size + 1 + 1,0,none⟩) 2 [1,1] _ ?_ ?_ hk ?_ HKS.out HLE.out HI.out) ?_;exact HK3.out _ _ _;exact Kd.C_below HR.out (HB3.out _ _ _);exact LITS.out _ _;rintro e w2 ⟨b,rfl,HA,hb⟩;have HBf:=Lib.hid (below_then (HB3.out _ _ _) (HB3.out _ _ _).size hb);clear hb) | (go_at_call 68;refine stop_intro ?_))
   go_ret
   exact ⟨ret_bool (by rw [HD.out,HA.out];rfl),HBf.out⟩
  ·have ht':(t == 0) = false:=by simpa using ht
   go_enter Try.func46,Try.ntmps46
   go_wp2
   go_ret
   exact ⟨ret_bool (by rw [HD.out,ht'];rfl),HB2.out _ _⟩
 by_cases h29:o = 29
 ·subst h29
  have HLE:Hid (l.length ≤ ([1,1]:List Int).length):=Lib.hid (by have h:=HV.out;simp [valueB,operandsI] at h;simp;omega)
  have HKS:Hid (([1,1]:List Int).length ≤ 2):=Lib.hid (by decide)
  have LITS:Hid (∀ O O':Obj,(Kd.int .i64).C (((w.alloc O).alloc O').alloc (.cells #[.int .i64 1,.int .i64 1] 3)) (some ⟨w.heap.size + 1 + 1,0,none⟩) ([1,1]:List Int).length [1,1]):=Lib.hid (fun O O'=>LIT.out O O' [1,1] (by decide))
  have HD:Hid (fitsB d ⟨29,t,im,l⟩ = (t == 0 && areB d.f l [1,1])):=Lib.hid rfl
  by_cases ht:t = 0
  ·subst ht
   go_enter Try.func46,Try.ntmps46
   go_wp2_with (first | (go_at_call 68;with_reducible refine Calls.mono (are_b g d v3 v4 v5 v6 29 0 im B kk l (some ⟨w.heap.size + 1 + 1,0,none⟩) 2 [1,1] _ ?_ ?_ hk ?_ HKS.out HLE.out HI.out) ?_;exact HK3.out _ _ _;exact Kd.C_below HR.out (HB3.out _ _ _);exact LITS.out _ _;rintro e w2 ⟨b,rfl,HA,hb⟩;have HBf:=Lib.hid (below_then (HB3.out _ _ _) (HB3.out _ _ _).size hb);clear hb) | (go_at_call 68;refine stop_intro ?_))
   go_ret
   exact ⟨ret_bool (by rw [HD.out,HA.out];rfl),HBf.out⟩
  ·have ht':(t == 0) = false:=by simpa using ht
   go_enter Try.func46,Try.ntmps46
   go_wp2
   go_ret
   exact ⟨ret_bool (by rw [HD.out,ht'];rfl),HB2.out _ _⟩
 by_cases h30:o = 30
 ·subst h30
  have HLE:Hid (l.length ≤ ([1,1]:List Int).length):=Lib.hid (by have h:=HV.out;simp [valueB,operandsI] at h;simp;omega)
  have HKS:Hid (([1,1]:List Int).length ≤ 2):=Lib.hid (by decide)
  have LITS:Hid (∀ O O':Obj,(Kd.int .i64).C (((w.alloc O).alloc O').alloc (.cells #[.int .i64 1,.int .i64 1] 3)) (some ⟨w.heap.size + 1 + 1,0,none⟩) ([1,1]:List Int).length [1,1]):=Lib.hid (fun O O'=>LIT.out O O' [1,1] (by decide))
  have HD:Hid (fitsB d ⟨30,t,im,l⟩ = (t == 0 && areB d.f l [1,1])):=Lib.hid rfl
  by_cases ht:t = 0
  ·subst ht
   go_enter Try.func46,Try.ntmps46
   go_wp2_with (first | (go_at_call 68;with_reducible refine Calls.mono (are_b g d v3 v4 v5 v6 30 0 im B kk l (some ⟨w.heap.size + 1 + 1,0,none⟩) 2 [1,1] _ ?_ ?_ hk ?_ HKS.out HLE.out HI.out) ?_;exact HK3.out _ _ _;exact Kd.C_below HR.out (HB3.out _ _ _);exact LITS.out _ _;rintro e w2 ⟨b,rfl,HA,hb⟩;have HBf:=Lib.hid (below_then (HB3.out _ _ _) (HB3.out _ _ _).size hb);clear hb) | (go_at_call 68;refine stop_intro ?_))
   go_ret
   exact ⟨ret_bool (by rw [HD.out,HA.out];rfl),HBf.out⟩
  ·have ht':(t == 0) = false:=by simpa using ht
   go_enter Try.func46,Try.ntmps46
   go_wp2
   go_ret
   exact ⟨ret_bool (by rw [HD.out,ht'];rfl),HB2.out _ _⟩
 by_cases h33:o = 33
 ·subst h33
  go_enter Try.func46,Try.ntmps46
  go_wp2
  all_goals
   go_ret
   exact ⟨ret_bool (by simp [fitsB, *]),HB2.out _ _⟩
 by_cases h25:o = 25
 ·subst h25
  obtain ⟨him,hle⟩:=val25 HV.out
  have HLE:=Lib.hid (And.intro him hle)
  clear him hle
  go_enter Try.func46,Try.ntmps46
  go_wp2_with (first | (go_at_call 69;with_reducible refine Calls.mono (called_b g d v3 v4 v5 v6 25 t im B kk l _ ?_ ?_ hk HLE.out.1 HLE.out.2 HI.out (HF.out im HLE.out.1)) ?_;exact HK2.out _ _;exact Kd.C_below HR.out (HB2.out _ _);rintro e w2 ⟨b,rfl,HA,hb⟩;have HBf:=Lib.hid (below_then (HB2.out _ _) (HB2.out _ _).size hb);clear hb) | (go_at_call 69;refine stop_intro ?_))
  go_ret
  exact ⟨ret_bool (by rw [← HA.out];rfl),HBf.out⟩
 by_cases h32:o = 32
 ·subst h32
  by_cases ht:t = 0
  ·subst ht
   go_enter Try.func46,Try.ntmps46
   go_wp2
   go_ret
   exact ⟨ret_bool rfl,HB2.out _ _⟩
  ·have ht':(t != 0) = true:=by simpa using ht
   have HALL:Hid (∀ O O':Obj,O = .cells #[.pointer (some ⟨g,0,none⟩)] 56 → O' = .cells #[.int .i64 32,.int .i64 t,.int .i64 im,.slice B l.length kk] 42 → Calls Try.prog 42 #[.slice B l.length kk,.func (.func 70) #[] #[.pointer (some ⟨w.heap.size,0,none⟩),.pointer (some ⟨w.heap.size + 1,0,none⟩)]] ((w.alloc O).alloc O') fun e w'=>∃ b,e = .returned (.bool b) ∧ Hid (l.all (fun a=>typeOf d.f a == t) = b) ∧ Below ((w.alloc O).alloc O').heap.size ((w.alloc O).alloc O') w'):=Lib.hid (by
    intro O O' hO hO'
    have b2:((w.alloc O).alloc O').heap[w.heap.size]? = some O:=blkB (below_alloc (Below.refl _ _) O') (blk_new w O)
    have b3:((w.alloc O).alloc O').heap[w.heap.size + 1]? = some O':=by have h:=blk_new (w.alloc O) O';rwa [World.size_alloc] at h
    refine (all_int 70 _ (fun a=>typeOf d.f a == t) B kk l _ (Kd.C_below HR.out (HB2.out O O')) hk enter70 (fun x hx W hb=>?_)).mono (fun e w' h=>⟨_,h.1,Lib.hid rfl,h.2⟩)
    have c2:=blkB hb b2
    have c3:=blkB hb b3
    rw [hO] at c2
    rw [hO'] at c3
    exact same_any g w.heap.size (w.heap.size + 1) d v3 v4 v5 v6 t x W ((HK2.out O O').below hb) ((blk_cell c2 0).trans rfl) ((blk_cell c3 1).trans rfl) (List.all_eq_true.1 HI.out x hx))
   go_enter Try.func46,Try.ntmps46
   go_wp2_with (first | (go_at_call 42;with_reducible refine Calls.mono (HALL.out _ _ rfl rfl) ?_;rintro e w2 ⟨b,rfl,HA,hb⟩;have HBf:=Lib.hid (below_then (HB2.out _ _) (HB2.out _ _).size hb);clear hb) | (go_at_call 42;refine stop_intro ?_))
   go_ret
   exact ⟨ret_bool (by show _ = (t != 0 && _);rw [ht',HA.out];rfl),HBf.out⟩
 by_cases h13:o = 13 ∨ o = 14
 ·have hl2:=val13 HV.out h13
  obtain ⟨ad,hA,q0⟩:=int_at (l:=l) (i:=0) HR.out (by omega)
  have hx:=List.all_eq_true.1 HI.out _ (mem_getD (l:=l) (i:=0) 0 (by omega))
  have HD:Hid (fitsB d ⟨o,t,im,l⟩ = ((t == 2 && typeOf d.f (l.getD 0 0) != 0) && areB d.f l [typeOf d.f (l.getD 0 0),typeOf d.f (l.getD 0 0)])):=Lib.hid (by
   unfold fitsB
   dsimp only
   rw [if_neg (by omega),if_pos h13])
  generalize l.getD 0 0 = x at *
  obtain ⟨ad3,B3,d3,hA3,_,t3,_,_,_,_⟩:=val_at HK.out.at_.r3 hx
  obtain ⟨x0,x1⟩:=inB_iff hx
  obtain rfl:=hA
  rw [add_zero] at q0
  have q0:=fun O O'=>cellO (cellO q0 O) O'
  have t3:=fun O O'=>cellO (cellO t3 O) O'
  have y2:=fun O O'=>(HK2.out O O').y2
  have x3:=fun O O'=>(HK2.out O O').at_.c3
  rw [hA3] at x3
  have hm3:=HK.out.at_.r3.2.1
  clear hx hA3
  generalize typeOf d.f x = ty at *
  have HLE:Hid (l.length ≤ ([ty,ty]:List Int).length):=Lib.hid (by simp;omega)
  have HKS:Hid (([ty,ty]:List Int).length ≤ 2):=Lib.hid (by simp)
  have LITQ:Hid (∀ (O O':Obj) (n:Nat),(Kd.int .i64).C ((((w.alloc O).alloc O').drewN n).alloc (.cells #[.int .i64 ty,.int .i64 ty] 3)) (some ⟨w.heap.size + 1 + 1,0,none⟩) ([ty,ty]:List Int).length [ty,ty]):=Lib.hid (fun O O' n=>by
   have h:(Kd.int .i64).C ((((w.alloc O).alloc O').drewN n).alloc (.cells #[.int .i64 ty,.int .i64 ty] 3)) (some ⟨((w.alloc O).alloc O').heap.size,0,none⟩) ([ty,ty]:List Int).length [ty,ty]:=lit_reads (((w.alloc O).alloc O').drewN n) [ty,ty] (by simp)
   rw [World.size_alloc,World.size_alloc] at h
   exact h)
  have HB4:Hid (∀ (O O':Obj) (n:Nat) (O'':Obj),Below w.heap.size w ((((w.alloc O).alloc O').drewN n).alloc O'')):=Lib.hid (fun O O' n O''=>below_alloc (pw_below_drewN (HB2.out O O') n) O'')
  have HK4:Hid (∀ (O O':Obj) (n:Nat) (O'':Obj),CkW ((((w.alloc O).alloc O').drewN n).alloc O'') g d v3 v4 v5 v6):=Lib.hid (fun O O' n O''=>((HK2.out O O').below (pw_below_drewN (Below.refl _ _) n)).below (below_alloc (Below.refl _ _) O''))
  have hl0:(0:Int) < (l.length:Int):=by omega
  clear hl2
  rcases h13 with rfl | rfl
  all_goals
   by_cases ht:t = 2
   ·subst ht
    by_cases h0:ty = 0
    ·subst h0
     go_enter Try.func46,Try.ntmps46
     go_wp2
     go_quiet (fail)
     go_wp2
     go_ret
     exact ⟨ret_bool (by rw [HD.out];rfl),pw_below_drewN (HB2.out _ _) _⟩
    ·have h0':(ty != 0) = true:=by simpa using h0
     go_enter Try.func46,Try.ntmps46
     go_wp2
     go_quiet (fail)
     go_wp2_with (first | (go_at_call 68;with_reducible refine Calls.mono (are_b g d v3 v4 v5 v6 _ 2 im (some ad) kk l (some ⟨w.heap.size + 1 + 1,0,none⟩) 2 [ty,ty] _ ?_ ?_ hk ?_ HKS.out HLE.out HI.out) ?_;exact HK4.out _ _ _ _;exact Kd.C_below HR.out (HB4.out _ _ _ _);exact LITQ.out _ _ _;rintro e w2 ⟨b,rfl,HA,hb⟩;have HBf:=Lib.hid (below_then (HB4.out _ _ _ _) (HB4.out _ _ _ _).size hb);clear hb) | (go_at_call 68;refine stop_intro ?_))
     go_ret
     exact ⟨ret_bool (by rw [HD.out,HA.out,h0'];rfl),HBf.out⟩
   ·have ht':(t == 2) = false:=by simpa using ht
    go_enter Try.func46,Try.ntmps46
    go_wp2
    go_quiet (fail)
    go_wp2
    go_ret
    exact ⟨ret_bool (by rw [HD.out,ht'];rfl),pw_below_drewN (HB2.out _ _) _⟩
 have HD:Hid (fitsB d ⟨o,t,im,l⟩ = (t == 1 && areB d.f l [1,1])):=Lib.hid (by
  unfold fitsB wantB
  dsimp only
  rw [if_neg h1,if_neg h13,if_neg h25,if_neg h32,if_neg h33,if_neg (by omega),if_neg h19,if_neg h20,if_neg h21,if_neg h22,if_neg h23,if_neg h27,if_neg (by omega)])
 have HLE:Hid (l.length ≤ ([1,1]:List Int).length):=Lib.hid (val_two HV.out (by omega))
 have HKS:Hid (([1,1]:List Int).length ≤ 2):=Lib.hid (by decide)
 have LITS:Hid (∀ O O':Obj,(Kd.int .i64).C (((w.alloc O).alloc O').alloc (.cells #[.int .i64 1,.int .i64 1] 3)) (some ⟨w.heap.size + 1 + 1,0,none⟩) ([1,1]:List Int).length [1,1]):=Lib.hid (fun O O'=>LIT.out O O' [1,1] (by decide))
 have f1:(o == 1) = false:=by simp;omega
 have f13:(o == 13) = false:=by simp;omega
 have f14:(o == 14) = false:=by simp;omega
 have f15:(o == 15) = false:=by simp;omega
 have f16:(o == 16) = false:=by simp;omega
 have f19:(o == 19) = false:=by simp;omega
 have f20:(o == 20) = false:=by simp;omega
 have f21:(o == 21) = false:=by simp;omega
 have f22:(o == 22) = false:=by simp;omega
 have f25:(o == 25) = false:=by simp;omega
 have f23:(o == 23) = false:=by simp;omega
 have f27:(o == 27) = false:=by simp;omega
 have f26:(o == 26) = false:=by simp;omega
 have f28:(o == 28) = false:=by simp;omega
 have f29:(o == 29) = false:=by simp;omega
 have f30:(o == 30) = false:=by simp;omega
 have f32:(o == 32) = false:=by simp;omega
 have f33:(o == 33) = false:=by simp;omega
 clear h1 h13 h15 h16 h19 h20 h21 h22 h23 h25 h26 h27 h28 h29 h30 h32 h33
 by_cases ht:t = 1
 ·subst ht
  go_enter Try.func46,Try.ntmps46
  go_wp2_with (first | (go_at_call 68;with_reducible refine Calls.mono (are_b g d v3 v4 v5 v6 o 1 im B kk l (some ⟨w.heap.size + 1 + 1,0,none⟩) 2 [1,1] _ ?_ ?_ hk ?_ HKS.out HLE.out HI.out) ?_;exact HK3.out _ _ _;exact Kd.C_below HR.out (HB3.out _ _ _);exact LITS.out _ _;rintro e w2 ⟨b,rfl,HA,hb⟩;have HBf:=Lib.hid (below_then (HB3.out _ _ _) (HB3.out _ _ _).size hb);clear hb) | (go_at_call 68;refine stop_intro ?_))
  go_ret
  exact ⟨ret_bool (by rw [HD.out,HA.out];rfl),HBf.out⟩
 ·have ht':(t == 1) = false:=by simpa using ht
  go_enter Try.func46,Try.ntmps46
  go_wp2
  go_ret
  exact ⟨ret_bool (by rw [HD.out,ht'];rfl),HB2.out _ _⟩
end Go.Proofs.Ytgbeliajhccndaa
end
section
set_option linter.unusedVariables false
set_option linter.unusedSimpArgs false
namespace Go.Proofs.Ytgbeliajhccndaa
open Go.RowKit Go.Proofs.YtgbeliajhccndaaW.PrintWords Go.Proofs.YtgbeliajhccndaaW.PrintLast Go.Proofs.YtgbeliajhccndaaW.PrintMore PP
theorem fits_b (g:Nat) (d:Ck) (v3 v4 v5 v6:Value) (v:S42) (B:Option Addr) (kk:Nat) (w:World) (h:CkW w g d v3 v4 v5 v6)
 (hr:(Kd.int .i64).C w B v.f3.length v.f3) (hk:v.f3.length ≤ kk) (hv:valueB d.fs v = true) (hin:v.f3.all (inB d.f.f3.length) = true) (hfun:∀ i,inB d.fs.length i = true → (rd_T38 d.fs i).f1.all (inB (rd_T38 d.fs i).f3.length) = true) :
 Calls Try.prog 46 #[.pointer (some ⟨g,0,none⟩),.agg #[.int .i64 v.f0,.int .i64 v.f1,.int .i64 v.f2,.slice B v.f3.length kk]] w fun e w'=>∃ b,e = .returned (.bool b) ∧ Hid (fitsB d v = b) ∧ Below w.heap.size w w':=
 (fits_any g d v3 v4 v5 v6 v B kk w h hr hk hv hin hfun).mono (fun e w' h=>⟨_,h.1,Lib.hid rfl,h.2⟩)
def wantT (f:S38) (k:Int):Int:=if k = 2 then 2 else if k = 4 then 1 else f.f2
def endB (f:S38) (b:S46):Bool:=if 0 ≤ b.f2.f1 then typeOf f b.f2.f1 == wantT f b.f2.f0 else true
def typesB (d:Ck):Bool:=d.f.f3.all (fitsB d) && d.f.f4.all (endB d.f)
def typesE (d:Ck):Int:=if typesB d = true then 0 else 95
theorem types_v {d:Ck} (h:d.f.f3.all (fitsB d) = false):typesE d = 95:=by unfold typesE typesB;rw [h];rfl
theorem types_e {d:Ck} (h:d.f.f4.all (endB d.f) = false):typesE d = 95:=by unfold typesE typesB;rw [h];simp
theorem types_ok {d:Ck} (h:d.f.f3.all (fitsB d) = true) (h':d.f.f4.all (endB d.f) = true):typesE d = 0:=by unfold typesE typesB;rw [h,h'];rfl
theorem ret_i {a b:Int} (h:a = b):Ending.returned (.int .i64 a) = .returned (.int .i64 b):=by rw [h]
structure Good (d:Ck):Prop where
 values:∀ v ∈ d.f.f3,v.f3.all (inB d.f.f3.length) = true ∧ valueB d.fs v = true
 blocks:∀ b ∈ d.f.f4,blockB d.f b = true
 params:d.f.f1.all (inB d.f.f3.length) = true
 some_:0 < d.f.f4.length
 all_:∀ i,inB d.fs.length i = true → (rd_T38 d.fs i).f1.all (inB (rd_T38 d.fs i).f3.length) = true
theorem term_in {f:S38} {t:S44} (h:termB f t = true) (h0:0 ≤ t.f1):inB f.f3.length t.f1 = true:=by
 unfold termB at h
 repeat' split at h
 all_goals first | (simp only [Bool.and_eq_true,beq_iff_eq] at h;first | exact h.1 | (exfalso;omega)) | cases h
theorem block_term {f:S38} {b:S46} (h:blockB f b = true):termB f b.f2 = true:=by
 unfold blockB at h
 simp only [Bool.and_eq_true] at h
 exact h.1.2
set_option maxHeartbeats 8000000 in
theorem types_any (g:Nat) (d:Ck) (v3 v4 v5 v6:Value) (w:World) (h:CkW w g d v3 v4 v5 v6) (hG:Good d) :
 Calls Try.prog 25 #[.pointer (some ⟨g,0,none⟩)] w fun e w'=>e = .returned (.int .i64 (typesE d)) ∧ Below w.heap.size w w':=by
 obtain ⟨fs,mn,A,c,p,f,A1,c1,A3,c3,A4,c4⟩:=d
 have hF:FnAt w p f A1 c1 A3 c3 A4 c4:=h.at_
 have hm3:=hF.r3.2.1
 have hm4:=hF.r4.2.1
 have y2:w.cell? ⟨g,2,none⟩ = some (.pointer (some p)):=h.y2
 have x3:=hF.c3
 have HK:=Lib.hid h
 have HF:=Lib.hid hF
 clear hF
 obtain ⟨FT,hFT⟩:∃ FT:S42 → Bool,FT = fitsB ⟨fs,mn,A,c,p,f,A1,c1,A3,c3,A4,c4⟩:=⟨_,rfl⟩
 have TV:Hid (f.f3.all FT = false → typesE ⟨fs,mn,A,c,p,f,A1,c1,A3,c3,A4,c4⟩ = 95):=Lib.hid (fun e=>types_v (by rw [← hFT];exact e))
 have TE:Hid (f.f4.all (endB f) = false → typesE ⟨fs,mn,A,c,p,f,A1,c1,A3,c3,A4,c4⟩ = 95):=Lib.hid (fun e=>types_e e)
 have TO:Hid (f.f3.all FT = true → f.f4.all (endB f) = true → typesE ⟨fs,mn,A,c,p,f,A1,c1,A3,c3,A4,c4⟩ = 0):=Lib.hid (fun e e'=>types_ok (by rw [← hFT];exact e) e')
 have HFT:=Lib.hid hFT
 clear hFT
 generalize typesE ⟨fs,mn,A,c,p,f,A1,c1,A3,c3,A4,c4⟩ = RR at *
 have HG:=Lib.hid hG
 clear h hG
 go_enter Try.func25,Try.ntmps25
 go_wp2
 go_loopg [16] (f.f3.length) (fun k v wr=>∃ i:Nat,i ≤ f.f3.length ∧ v = .int .i64 i ∧ Hid (i + k = f.f3.length) ∧ Hid (f.f3.all (FT) = (f.f3.drop i).all (FT)) ∧ Hid (Below w.heap.size w wr))
 case atStart=>exact ⟨0,by omega,rfl,Lib.hid (by omega),Lib.hid (by simp),Lib.hid (Below.refl _ _)⟩
 case round=>
  clear y2 x3
  obtain ⟨i,hi,rfl,HI,HP,HB⟩:=hrel
  have HKr:=Lib.hid (HK.out.below HB.out)
  have HFr:=Lib.hid (HF.out.below HB.out)
  have y2:wr.cell? ⟨g,2,none⟩ = some (.pointer (some p)):=HKr.out.y2
  have x4:=HFr.out.c4
  by_cases hlt:i < f.f3.length
  ·obtain ⟨ad,B3,d3,hA,q0,q1,q2,q3,q4,q5⟩:=at_T42 HF.out.r3 (i:Int) (by omega) (by omega)
   rw [Int.toNat_natCast] at q0 q1 q2 q3
   have q0:=cellB HB.out q0
   have q1:=cellB HB.out q1
   have q2:=cellB HB.out q2
   have q3:=cellB HB.out q3
   have HX:=Lib.hid q5
   clear q5
   obtain rfl:=hA
   have hx0:rd_T42 f.f3 (i:Int) = f.f3.getD i z42:=by simp [rd_T42]
   have hgood:=Lib.hid (HG.out.values _ (mem_getD z42 hlt))
   have HST:=Lib.hid (all_stop (p:=FT) (d:=z42) hlt HP.out)
   have HNX:=Lib.hid (all_next (p:=FT) (d:=z42) hlt HP.out)
   rw [← hx0] at HST HNX hgood
   clear hx0
   generalize rd_T42 f.f3 (i:Int) = x at *
   obtain ⟨O,hO⟩:∃ O:Obj,O = .cells #[.int .i64 x.f0,.int .i64 x.f1,.int .i64 x.f2,.slice B3 x.f3.length d3] 42:=⟨_,rfl⟩
   have HKa:=Lib.hid (HKr.out.below (below_alloc (Below.refl _ _) O))
   have HBa:=Lib.hid (below_alloc HB.out O)
   rw [hO] at HKa HBa
   clear hO
   go_wp2_with (first | (go_at_call 46;with_reducible refine Calls.mono (fits_b g ⟨fs,mn,A,c,p,f,A1,c1,some ad,c3,A4,c4⟩ v3 v4 v5 v6 x B3 d3 _ HKa.out ?_ q4 hgood.out.2 hgood.out.1 HG.out.all_) ?_;exact Kd.C_below HX.out HBa.out;rintro e w2 ⟨b,rfl,HA2,hb⟩;have HB2:=Lib.hid (below_then HBa.out HBa.out.size hb);clear hb) | (go_at_call 46;refine stop_intro ?_))
   all_goals first
    | (go_ret
       exact ⟨ret_i (TV.out (HST.out (by rw [HFT.out,HA2.out];simpa using ‹(!b) = true›))).symm,HB2.out⟩)
    | (go_roundg (gk - 1)
       case measure=>have:=HI.out;omega
       case rel=>exact ⟨i + 1,by omega,by go_num,Lib.hid (by have:=HI.out;omega),Lib.hid (HNX.out (by rw [HFT.out,HA2.out];simpa using ‹(!b) = false›)),HB2⟩)
  ·have HV:Hid (f.f3.all (FT) = true):=Lib.hid (by rw [HP.out,List.drop_eq_nil_of_le (by omega)];rfl)
   clear HP HI
   go_wp2
   go_loopg [6,7,33] (f.f4.length) (fun k _ _ v wr=>∃ i:Nat,i ≤ f.f4.length ∧ v = .int .i64 i ∧ Hid (i + k = f.f4.length) ∧ Hid (f.f4.all (endB f) = (f.f4.drop i).all (endB f)) ∧ Hid (Below w.heap.size w wr))
   case atStart=>exact ⟨0,by omega,rfl,Lib.hid (by omega),Lib.hid (by simp),HB⟩
   case round=>
    clear y2 x4 HKr HFr HB
    obtain ⟨j,hj,rfl,HJ,HQ,HB⟩:=hrel
    have HKr:=Lib.hid (HK.out.below HB.out)
    have HFr:=Lib.hid (HF.out.below HB.out)
    by_cases hlt2:j < f.f4.length
    ·obtain ⟨ad4,B0,d0,B1,d1,B4,d4,B5,d5,hA4,q0,q1,q2,q3,q4,q5,_⟩:=at_T46 HF.out.r4 (j:Int) (by omega) (by omega)
     rw [Int.toNat_natCast] at q0 q1 q2 q3 q4 q5
     have q0:=cellB HB.out q0
     have q1:=cellB HB.out q1
     have q2:=cellB HB.out q2
     have q3:=cellB HB.out q3
     have q4:=cellB HB.out q4
     have q5:=cellB HB.out q5
     have hx0:rd_T46 f.f4 (j:Int) = f.f4.getD j z46:=by simp [rd_T46]
     have hterm:=Lib.hid (block_term (HG.out.blocks _ (mem_getD z46 hlt2)))
     have HST:=Lib.hid (all_stop (p:=endB f) (d:=z46) hlt2 HQ.out)
     have HNX:=Lib.hid (all_next (p:=endB f) (d:=z46) hlt2 HQ.out)
     rw [← hx0] at HST HNX hterm
     clear hx0
     generalize rd_T46 f.f4 (j:Int) = b at *
     have y2:∀ O,(wr.alloc O).cell? ⟨g,2,none⟩ = some (.pointer (some p)):=fun O=>cellO HKr.out.y2 O
     have x2:=fun O=>cellO HFr.out.c2 O
     have x3:=fun O=>cellO HFr.out.c3 O
     obtain rfl:=hA4
     have HBa:Hid (∀ O n,Below w.heap.size w ((wr.alloc O).drewN n)):=Lib.hid (fun O n=>pw_below_drewN (below_alloc HB.out O) n)
     obtain ⟨WT,hW⟩:∃ WT,WT = wantT f b.f2.f0:=⟨_,rfl⟩
     have HW3:(b.f2.f0 = 2 ∧ WT = 2) ∨ (b.f2.f0 = 4 ∧ WT = 1) ∨ ((b.f2.f0 == 2) = false ∧ (b.f2.f0 == 4) = false ∧ WT = f.f2):=by
      rw [hW];unfold wantT
      by_cases a:b.f2.f0 = 2
      ·exact .inl ⟨a,by rw [if_pos a]⟩
      ·by_cases a':b.f2.f0 = 4
       ·exact .inr (.inl ⟨a',by rw [if_neg a,if_pos a']⟩)
       ·exact .inr (.inr ⟨by simpa using a,by simpa using a',by rw [if_neg a,if_neg a']⟩)
     by_cases h0:0 ≤ b.f2.f1
     ·have hin:=term_in hterm.out h0
      have HE:Hid (endB f b = (typeOf f b.f2.f1 == WT)):=Lib.hid (by unfold endB;rw [if_pos h0,hW])
      obtain ⟨ad3,C3,e3,hA3,_,t3,_,_,_,_⟩:=val_at HFr.out.r3 hin
      have t3:=fun O=>cellO t3 O
      obtain ⟨_,x1⟩:=inB_iff hin
      obtain rfl:=hA3
      clear hin
      generalize b.f2.f1 = v at *
      generalize typeOf f v = ty at *
      generalize b.f2.f0 = k at *
      by_cases he:ty = WT
      ·have HE1:Hid (endB f b = true):=Lib.hid (by rw [HE.out];simpa using he)
       clear hW
       subst he
       have he1:(ty != ty) = false:=by simp
       rcases HW3 with ⟨e1,e2⟩ | ⟨e1,e2⟩ | ⟨e1,e2,e3⟩
       ·subst e1;subst e2
        go_wp2
        go_quiet (fail)
        go_wp2
        go_roundg (gk - 1)
        case measure=>have:=HJ.out;omega
        case rel=>exact ⟨j + 1,by omega,by go_num,Lib.hid (by have:=HJ.out;omega),Lib.hid (HNX.out HE1.out),Lib.hid (HBa.out _ _)⟩
       ·subst e1;subst e2
        go_wp2
        go_quiet (fail)
        go_wp2
        go_roundg (gk - 1)
        case measure=>have:=HJ.out;omega
        case rel=>exact ⟨j + 1,by omega,by go_num,Lib.hid (by have:=HJ.out;omega),Lib.hid (HNX.out HE1.out),Lib.hid (HBa.out _ _)⟩
       ·subst e3
        go_wp2
        go_quiet (fail)
        go_wp2
        go_roundg (gk - 1)
        case measure=>have:=HJ.out;omega
        case rel=>exact ⟨j + 1,by omega,by go_num,Lib.hid (by have:=HJ.out;omega),Lib.hid (HNX.out HE1.out),Lib.hid (HBa.out _ _)⟩
      ·have he1:(ty != WT) = true:=by simpa using he
       clear hW
       rcases HW3 with ⟨e1,e2⟩ | ⟨e1,e2⟩ | ⟨e1,e2,e3⟩
       ·subst e1;subst e2
        go_wp2
        go_quiet (fail)
        go_wp2
        go_ret
        exact ⟨ret_i (TE.out (HST.out (by rw [HE.out];simpa using he))).symm,HBa.out _ _⟩
       ·subst e1;subst e2
        go_wp2
        go_quiet (fail)
        go_wp2
        go_ret
        exact ⟨ret_i (TE.out (HST.out (by rw [HE.out];simpa using he))).symm,HBa.out _ _⟩
       ·subst e3
        go_wp2
        go_quiet (fail)
        go_wp2
        go_ret
        exact ⟨ret_i (TE.out (HST.out (by rw [HE.out];simpa using he))).symm,HBa.out _ _⟩
     ·have HE1:Hid (endB f b = true):=Lib.hid (by unfold endB;rw [if_neg h0])
      generalize b.f2.f1 = v at *
      generalize b.f2.f0 = k at *
      clear hW
      have h0':decide (0 ≤ v) = false:=decide_eq_false h0
      have h0n:decide (v ≥ 0) = false:=decide_eq_false h0
      rcases HW3 with ⟨e1,e2⟩ | ⟨e1,e2⟩ | ⟨e1,e2,e3⟩
      ·subst e1;subst e2
       go_wp2
       go_quiet (fail)
       go_wp2
       go_roundg (gk - 1)
       case measure=>have:=HJ.out;omega
       case rel=>exact ⟨j + 1,by omega,by go_num,Lib.hid (by have:=HJ.out;omega),Lib.hid (HNX.out HE1.out),Lib.hid (HBa.out _ _)⟩
      ·subst e1;subst e2
       go_wp2
       go_quiet (fail)
       go_wp2
       go_roundg (gk - 1)
       case measure=>have:=HJ.out;omega
       case rel=>exact ⟨j + 1,by omega,by go_num,Lib.hid (by have:=HJ.out;omega),Lib.hid (HNX.out HE1.out),Lib.hid (HBa.out _ _)⟩
      ·subst e3
       go_wp2
       go_quiet (fail)
       go_wp2
       go_roundg (gk - 1)
       case measure=>have:=HJ.out;omega
       case rel=>exact ⟨j + 1,by omega,by go_num,Lib.hid (by have:=HJ.out;omega),Lib.hid (HNX.out HE1.out),Lib.hid (HBa.out _ _)⟩
    ·go_wp2
     go_ret
     exact ⟨ret_i (TO.out HV.out (by rw [HQ.out,List.drop_eq_nil_of_le (by omega)];rfl)).symm,HB.out⟩
end Go.Proofs.Ytgbeliajhccndaa
end
