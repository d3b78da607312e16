/- Lemmas of this claim (SA,SB,SC,SD). -/
import Derived.Test.YtgbeliajhccndaaKG
import Derived.Test.YtgbeliajhccndaaKE
import Derived.Test.YtgbeliajhccndaaKF
section
set_option linter.unusedVariables false
set_option linter.unusedSimpArgs false
namespace Go.Proofs.Ytgbeliajhccndaa
open Go.RowKit Go.Proofs.YtgbeliajhccndaaW.PrintWords Go.Proofs.YtgbeliajhccndaaW.PrintLast Go.Proofs.YtgbeliajhccndaaW.PrintMore
theorem all_stop {α:Type} {l:List α} {p:α → Bool} {i:Nat} {d:α} (hi:i < l.length) (h:l.all p = (l.drop i).all p) (hp:p (l.getD i d) = false):l.all p = false:=by
 rw [h,List.drop_eq_getElem_cons hi,List.all_cons];simp [List.getD_eq_getElem?_getD,hi] at hp;simp [hp]
theorem all_next {α:Type} {l:List α} {p:α → Bool} {i:Nat} {d:α} (hi:i < l.length) (h:l.all p = (l.drop i).all p) (hp:p (l.getD i d) = true):l.all p = (l.drop (i + 1)).all p:=by
 rw [h,List.drop_eq_getElem_cons hi,List.all_cons];simp [List.getD_eq_getElem?_getD,hi] at hp;simp [hp]
theorem mem_getD {α:Type} {l:List α} {i:Nat} (d:α) (hi:i < l.length):l.getD i d ∈ l:=by
 simp [List.getD_eq_getElem?_getD,hi]
theorem ret_bool {a b:Bool} (h:a = b):Ending.returned (.bool a) = .returned (.bool b):=by rw [h]
theorem run_enter {P:Program} {f:FuncId} {fn:Func} (hf:P.funcs[f]? = some fn) (hname:(fn.name == "runtime.NumGoroutine") = false) (hb:fn.body.isNone = false) (args:Array Value) (w:World):(callFunc f args).run P w = .ok (.enter f args) w:=by
 have h1:¬ fn.name = "runtime.NumGoroutine":=beq_eq_false_iff_ne.1 hname
 have h2:¬ fn.body = none:=by intro h;rw [h] at hb;cases hb
 simp [callFunc,hf,h1,h2,go_sem]
set_option maxHeartbeats 1000000 in
theorem all_int (g:Nat) (caps:Array Value) (p:Int → Bool) (A:Option Addr) (c:Nat) (l:List Int) (w:World) (hr:Kd.C (Kd.int .i64) w A l.length l) (hc:l.length ≤ c)
 (hrun:∀ args w,(callFunc g args).run Try.prog w = .ok (.enter g args) w) (hcall:∀ x ∈ l,∀ W,Below w.heap.size w W → Calls Try.prog g (#[.int .i64 x] ++ caps) W fun e W'=>e = .returned (.bool (p x)) ∧ Below W.heap.size W W') :
 Calls Try.prog 42 #[.slice A l.length c,.func (.func g) #[] caps] w fun e w'=>e = .returned (.bool (l.all p)) ∧ Below w.heap.size w w':=by
 have HR:=Lib.hid hr
 have HC:=Lib.hid hcall
 have hl:=hr.2.1
 clear hr hcall
 go_enter Try.func42,Try.ntmps42
 go_wp2
 go_loopg [9] (l.length) (fun k v wr=>∃ i:Nat,i ≤ l.length ∧ v = .int .i64 i ∧ Hid (i + k = l.length) ∧ Hid (l.all p = (l.drop i).all p) ∧ Hid (Below w.heap.size w wr))
 case atStart=>exact ⟨0,by omega,rfl,Lib.hid (by omega),Lib.hid (by simp),Lib.hid (Below.refl _ _)⟩
 case round=>
  obtain ⟨i,hi,rfl,HI,HP,HB⟩:=hrel
  by_cases hlt:i < l.length
  ·obtain ⟨ad,hA,hcell⟩:=Kd.at_int (Kd.C_below HR.out HB.out) (i:Int) (by omega) (by omega)
   obtain rfl:=hA
   have hcall:=HC.out (l.getD i 0) (mem_getD 0 hlt) _ HB.out
   have e0:rd l (i:Int) = l.getD i 0:=by simp [rd]
   rw [Int.toNat_natCast,e0] at hcell
   have hst:=all_stop (p:=p) (d:=0) hlt HP.out
   have hnx:=all_next (p:=p) (d:=0) hlt HP.out
   have HST:=Lib.hid hst
   have HNX:=Lib.hid hnx
   clear hst hnx e0
   generalize l.getD i 0 = x at *
   have HCL:=Lib.hid hcall
   clear hcall
   cases hpx:p x
   ·have HST:=Lib.hid (HST.out hpx)
    rw [hpx] at HCL
    go_wp2_with (with_reducible refine HCL.out.mono ?_;rintro e w' ⟨rfl,hb⟩)
    go_ret
    exact ⟨ret_bool HST.out.symm,below_then HB.out HB.out.size hb⟩
   ·have HNX:=Lib.hid (HNX.out hpx)
    rw [hpx] at HCL
    go_wp2_with (with_reducible refine HCL.out.mono ?_;rintro e w' ⟨rfl,hb⟩)
    go_roundg (gk - 1)
    case measure=>have:=HI.out;omega
    case rel=>exact ⟨i + 1,by omega,by go_num,Lib.hid (by have:=HI.out;omega),HNX,Lib.hid (below_then HB.out HB.out.size hb)⟩
  ·go_wp2
   go_ret
   exact ⟨by rw [HP.out,List.drop_eq_nil_of_le (by omega)];rfl,HB.out⟩
end Go.Proofs.Ytgbeliajhccndaa
end
section
set_option linter.unusedVariables false
set_option linter.unusedSimpArgs false
namespace Go.Proofs.Ytgbeliajhccndaa
open Go.RowKit Go.Proofs.YtgbeliajhccndaaW.PrintWords Go.Proofs.YtgbeliajhccndaaW.PrintLast Go.Proofs.YtgbeliajhccndaaW.PrintMore PP
def FnAt (w:World) (p:Addr) (f:S38) (A1:Option Addr) (c1:Nat) (A3:Option Addr) (c3:Nat) (A4:Option Addr) (c4:Nat):Prop:=
 w.cell? p = some (.string f.f0) ∧ w.cell? ⟨p.block,p.off + 1,none⟩ = some (.slice A1 f.f1.length c1) ∧ w.cell? ⟨p.block,p.off + 2,none⟩ = some (.int .i64 f.f2) ∧ w.cell? ⟨p.block,p.off + 3,none⟩ = some (.slice A3 f.f3.length c3) ∧ w.cell? ⟨p.block,p.off + 4,none⟩ = some (.slice A4 f.f4.length c4) ∧ f.f1.length ≤ c1 ∧ (Kd.int .i64).C w A1 f.f1.length f.f1 ∧ f.f3.length ≤ c3 ∧ k42.C w A3 f.f3.length f.f3 ∧ f.f4.length ≤ c4 ∧ k46.C w A4 f.f4.length f.f4
section
variable {w W:World} {p:Addr} {f:S38} {A1 A3 A4:Option Addr} {d1 d3 d4:Nat}
theorem cellB {w W:World} (hb:Below w.heap.size w W) {a:Addr} {v:Value} (h:w.cell? a = some v):W.cell? a = some v:=(hb.cell (World.block_lt_of_cell? w _ h)).trans h
theorem FnAt.below (h:FnAt w p f A1 d1 A3 d3 A4 d4) (hb:Below w.heap.size w W):FnAt W p f A1 d1 A3 d3 A4 d4:=
 ⟨cellB hb h.1,cellB hb h.2.1,cellB hb h.2.2.1,cellB hb h.2.2.2.1,cellB hb h.2.2.2.2.1,h.2.2.2.2.2.1,Kd.C_below h.2.2.2.2.2.2.1 hb,h.2.2.2.2.2.2.2.1,Kd.C_below h.2.2.2.2.2.2.2.2.1 hb,h.2.2.2.2.2.2.2.2.2.1,Kd.C_below h.2.2.2.2.2.2.2.2.2.2 hb⟩
theorem FnAt.c0 (h:FnAt w p f A1 d1 A3 d3 A4 d4):w.cell? p = some (.string f.f0):=h.1
theorem FnAt.c1 (h:FnAt w p f A1 d1 A3 d3 A4 d4):w.cell? ⟨p.block,p.off + 1,none⟩ = some (.slice A1 f.f1.length d1):=h.2.1
theorem FnAt.c2 (h:FnAt w p f A1 d1 A3 d3 A4 d4):w.cell? ⟨p.block,p.off + 2,none⟩ = some (.int .i64 f.f2):=h.2.2.1
theorem FnAt.c3 (h:FnAt w p f A1 d1 A3 d3 A4 d4):w.cell? ⟨p.block,p.off + 3,none⟩ = some (.slice A3 f.f3.length d3):=h.2.2.2.1
theorem FnAt.c4 (h:FnAt w p f A1 d1 A3 d3 A4 d4):w.cell? ⟨p.block,p.off + 4,none⟩ = some (.slice A4 f.f4.length d4):=h.2.2.2.2.1
theorem FnAt.l1 (h:FnAt w p f A1 d1 A3 d3 A4 d4):f.f1.length ≤ d1:=h.2.2.2.2.2.1
theorem FnAt.r1 (h:FnAt w p f A1 d1 A3 d3 A4 d4):(Kd.int .i64).C w A1 f.f1.length f.f1:=h.2.2.2.2.2.2.1
theorem FnAt.l3 (h:FnAt w p f A1 d1 A3 d3 A4 d4):f.f3.length ≤ d3:=h.2.2.2.2.2.2.2.1
theorem FnAt.r3 (h:FnAt w p f A1 d1 A3 d3 A4 d4):k42.C w A3 f.f3.length f.f3:=h.2.2.2.2.2.2.2.2.1
theorem FnAt.l4 (h:FnAt w p f A1 d1 A3 d3 A4 d4):f.f4.length ≤ d4:=h.2.2.2.2.2.2.2.2.2.1
theorem FnAt.r4 (h:FnAt w p f A1 d1 A3 d3 A4 d4):k46.C w A4 f.f4.length f.f4:=h.2.2.2.2.2.2.2.2.2.2
end
theorem cellO {w:World} {a:Addr} {v:Value} (h:w.cell? a = some v) (o:Obj):(w.alloc o).cell? a = some v:=cellB ((Below.refl _ _).alloc (Nat.le_refl _) o) h
def inB (n:Nat) (x:Int):Bool:=decide (0 ≤ x) && decide (x < (n:Int))
set_option maxHeartbeats 1000000 in
theorem value_any (b:Nat) (p:Addr) (f:S38) (x:Int) (A3:Option Addr) (c3:Nat) (w:World) (hb:w.cell? ⟨b,0,none⟩ = some (.pointer (some p))) (hf:w.cell? ⟨p.block,p.off + 3,none⟩ = some (.slice A3 f.f3.length c3)) :
 Calls Try.prog 60 #[.int .i64 x,.pointer (some ⟨b,0,none⟩)] w fun e w'=>e = .returned (.bool (inB f.f3.length x)) ∧ Below w.heap.size w w':=by
 go_enter Try.func60,Try.ntmps60
 go_wp2
 all_goals
  go_ret
  exact ⟨ret_bool (by first | (simp [inB, *];done) | (simp [inB, *];omega)),Below.refl _ _⟩
set_option maxHeartbeats 1000000 in
theorem block_any (b:Nat) (p:Addr) (f:S38) (x:Int) (A4:Option Addr) (c4:Nat) (w:World) (hb:w.cell? ⟨b,0,none⟩ = some (.pointer (some p))) (hf:w.cell? ⟨p.block,p.off + 4,none⟩ = some (.slice A4 f.f4.length c4)) :
 Calls Try.prog 61 #[.int .i64 x,.pointer (some ⟨b,0,none⟩)] w fun e w'=>e = .returned (.bool (inB f.f4.length x)) ∧ Below w.heap.size w w':=by
 go_enter Try.func61,Try.ntmps61
 go_wp2
 all_goals
  go_ret
  exact ⟨ret_bool (by first | (simp [inB, *];done) | (simp [inB, *];omega)),Below.refl _ _⟩
def opAt (f:S38) (x:Int):Int:=(rd_T42 f.f3 x).f0
set_option maxHeartbeats 1000000 in
theorem param_any (b:Nat) (p:Addr) (f:S38) (x:Int) (A3:Option Addr) (c3:Nat) (w:World) (hb:w.cell? ⟨b,0,none⟩ = some (.pointer (some p))) (hf:w.cell? ⟨p.block,p.off + 3,none⟩ = some (.slice A3 f.f3.length c3)) (hr:k42.C w A3 f.f3.length f.f3) (hx:inB f.f3.length x = true) :
 Calls Try.prog 65 #[.int .i64 x,.pointer (some ⟨b,0,none⟩)] w fun e w'=>e = .returned (.bool (opAt f x != 33)) ∧ Below w.heap.size w w':=by
 have hx0:0 ≤ x:=by simp [inB] at hx;omega
 have hx1:x < (f.f3.length:Int):=by simp [inB] at hx;omega
 obtain ⟨ad,B3,d3,hA,h0,h1,h2,h3,_,_⟩:=at_T42 hr x hx0 hx1
 obtain rfl:=hA
 have hm:=hr.2.1
 clear hr hx h1 h2 h3
 unfold opAt
 go_enter Try.func65,Try.ntmps65
 go_wp2
 go_ret
 exact ⟨rfl,Below.refl _ _⟩
def termB (f:S38) (t:S44):Bool:=
 if t.f0 = 1 then t.f1 == -1 && (t.f2.length:Int) == 1
 else if t.f0 = 2 then inB f.f3.length t.f1 && (t.f2.length:Int) == 2
 else if t.f0 = 3 then (if f.f2 = 0 then t.f1 == -1 && (t.f2.length:Int) == 0 else inB f.f3.length t.f1 && (t.f2.length:Int) == 0)
 else if t.f0 = 4 then inB f.f3.length t.f1 && (t.f2.length:Int) == 0
 else false
set_option maxHeartbeats 2000000 in
theorem formedTerm_any (p:Addr) (f:S38) (t:S44) (A A1 A3 A4:Option Addr) (c c1 c3 c4:Nat) (w:World) (hf:FnAt w p f A1 c1 A3 c3 A4 c4) :
 Calls Try.prog 64 #[.pointer (some p),.agg #[.int .i64 t.f0,.int .i64 t.f1,.slice A t.f2.length c]] w fun e w'=>e = .returned (.bool (termB f t)) ∧ Below w.heap.size w w':=by
 have e2:=fun o=>cellO hf.c2 o
 have e3:=fun o=>cellO hf.c3 o
 clear hf
 have hB:∀ o:Obj,Below w.heap.size w (w.alloc o):=fun o=>(Below.refl _ _).alloc (Nat.le_refl _) o
 have HB:=Lib.hid hB
 clear hB
 obtain ⟨kd,v,tt⟩:=t
 dsimp only
 have quiet:∀ m:Int,(kd = 2 ∧ m = 2 ∨ kd = 3 ∧ m = 0 ∧ ¬ f.f2 = 0 ∨ kd = 4 ∧ m = 0) → termB f ⟨kd,v,tt⟩ = (inB f.f3.length v && ((tt.length:Int) == m)):=by
  intro m h
  unfold termB
  dsimp only
  rcases h with ⟨rfl,rfl⟩ | ⟨rfl,rfl,h⟩ | ⟨rfl,rfl⟩
  ·rfl
  ·rw [if_neg (by omega),if_neg (by omega),if_pos rfl,if_neg h]
  ·rfl
 have HQ:=Lib.hid quiet
 clear quiet
 by_cases k1:kd = 1
 ·subst k1
  go_enter Try.func64,Try.ntmps64
  go_wp2
  all_goals
   go_ret
   exact ⟨ret_bool (by simp [termB, *]),HB.out _⟩
 by_cases k5:f.f2 = 0 ∧ kd = 3
 ·obtain ⟨k5,rfl⟩:=k5
  simp only [k5] at e2
  go_enter Try.func64,Try.ntmps64
  go_wp2
  all_goals
   go_ret
   exact ⟨ret_bool (by simp [termB, *]),HB.out _⟩
 by_cases k0:kd = 2 ∨ kd = 3 ∨ kd = 4
 ·obtain ⟨b0,hb0⟩:∃ b,decide (0 ≤ v) = b:=⟨_,rfl⟩
  obtain ⟨b1,hb1⟩:∃ b,decide (v < (f.f3.length:Int)) = b:=⟨_,rfl⟩
  have hin:inB f.f3.length v = (b0 && b1):=by rw [← hb0,← hb1];rfl
  have hb0':decide (v ≥ 0) = b0:=hb0
  rw [hin] at HQ
  clear hin
  rcases k0 with rfl | rfl | rfl
  ·have HQ2:=Lib.hid (HQ.out 2 (.inl ⟨rfl,rfl⟩))
   clear HQ
   cases b0 <;> cases b1
   all_goals
    go_enter Try.func64,Try.ntmps64
    go_wp2
    go_quiet (fail)
    go_wp2
    go_ret
    exact ⟨ret_bool (by rw [HQ2.out];first | rfl | simp),pw_below_drewN (HB.out _) _⟩
  ·have k6:(f.f2 != 0) = true:=by simpa using fun h=>k5 ⟨h,rfl⟩
   have HQ2:=Lib.hid (HQ.out 0 (.inr (.inl ⟨rfl,rfl,fun h=>k5 ⟨h,rfl⟩⟩)))
   clear HQ
   cases b0 <;> cases b1
   all_goals
    go_enter Try.func64,Try.ntmps64
    go_wp2
    go_quiet (fail)
    go_wp2
    go_ret
    exact ⟨ret_bool (by rw [HQ2.out];first | rfl | simp),pw_below_drewN (HB.out _) _⟩
  ·have HQ2:=Lib.hid (HQ.out 0 (.inr (.inr ⟨rfl,rfl⟩)))
   clear HQ
   cases b0 <;> cases b1
   all_goals
    go_enter Try.func64,Try.ntmps64
    go_wp2
    go_quiet (fail)
    go_wp2
    go_ret
    exact ⟨ret_bool (by rw [HQ2.out];first | rfl | simp),pw_below_drewN (HB.out _) _⟩
 ·have HT:Hid (termB f ⟨kd,v,tt⟩ = false):=Lib.hid (by unfold termB;dsimp only;rw [if_neg k1,if_neg (by omega),if_neg (by omega),if_neg (by omega)])
  have k1:(kd == 1) = false:=by simpa using k1
  have k2:(kd == 2) = false:=by simp;omega
  have k4:(kd == 3) = false:=by simp;omega
  have k5:(kd == 4) = false:=by simp;omega
  clear k0 HQ
  go_enter Try.func64,Try.ntmps64
  go_wp2
  go_ret
  exact ⟨ret_bool (by rw [HT.out]),HB.out _⟩
end Go.Proofs.Ytgbeliajhccndaa
end
section
set_option linter.unusedVariables false
set_option linter.unusedSimpArgs false
namespace Go.Proofs.Ytgbeliajhccndaa
open Go.RowKit Go.Proofs.YtgbeliajhccndaaW.PrintWords Go.Proofs.YtgbeliajhccndaaW.PrintLast Go.Proofs.YtgbeliajhccndaaW.PrintMore PP
theorem blkB {w W:World} (hb:Below w.heap.size w W) {g:Nat} {o:Obj} (h:w.heap[g]? = some o):W.heap[g]? = some o:=(hb.block g (blk_lt h)).trans h
theorem enter60 (args:Array Value) (w:World):(callFunc 60 args).run Try.prog w = .ok (.enter 60 args) w:=run_enter Try.func60 (by kernel_rfl) (by kernel_rfl) args w
theorem enter61 (args:Array Value) (w:World):(callFunc 61 args).run Try.prog w = .ok (.enter 61 args) w:=run_enter Try.func61 (by kernel_rfl) (by kernel_rfl) args w
theorem enter65 (args:Array Value) (w:World):(callFunc 65 args).run Try.prog w = .ok (.enter 65 args) w:=run_enter Try.func65 (by kernel_rfl) (by kernel_rfl) args w
def operandsI (op:Int):Int:=if op = 24 then 0 else if op = 17 ∨ op = 18 ∨ op = 19 ∨ op = 20 ∨ op = 23 ∨ op = 26 ∨ op = 27 then 1 else if op = 21 then 2 else if op = 22 then 3 else if 2 ≤ op ∧ op ≤ 16 then 2 else -1
def valueB (fs:List S38) (v:S42):Bool:=
 decide (0 ≤ v.f1) && decide (v.f1 ≤ 3) &&
 (if v.f0 = 1 ∨ v.f0 = 33 then (v.f3.length:Int) == 0
  else if v.f0 = 32 then v.f2 == 0
  else if v.f0 = 25 then decide (0 ≤ v.f2) && decide (v.f2 < (fs.length:Int)) && (v.f3.length:Int) == ((rd_T38 fs v.f2).f1.length:Int)
  else if v.f0 = 28 ∨ v.f0 = 29 then (v.f3.length:Int) == 1 && decide (1 ≤ v.f2) && decide (v.f2 ≤ 5)
  else if v.f0 = 30 then (v.f3.length:Int) == 2 && decide (1 ≤ v.f2) && decide (v.f2 ≤ 5)
  else decide (0 ≤ operandsI v.f0) && (v.f3.length:Int) == operandsI v.f0 && v.f2 == 0)
theorem operands_eq (op:Int):ssa_operands.f 1 op = some (operandsI op):=by
 by_cases h24:op = 24
 ·subst h24;rfl
 by_cases h17:op = 17
 ·subst h17;rfl
 by_cases h18:op = 18
 ·subst h18;rfl
 by_cases h19:op = 19
 ·subst h19;rfl
 by_cases h20:op = 20
 ·subst h20;rfl
 by_cases h23:op = 23
 ·subst h23;rfl
 by_cases h26:op = 26
 ·subst h26;rfl
 by_cases h27:op = 27
 ·subst h27;rfl
 by_cases h21:op = 21
 ·subst h21;rfl
 by_cases h22:op = 22
 ·subst h22;rfl
 by_cases h2:2 ≤ op <;> by_cases h3:op ≤ 16 <;> simp [ssa_operands.f,operandsI,ssa_operands.j0, *]
theorem isType_eq (t:Int):ssa_isType.f t = some (decide (1 ≤ t) && decide (t ≤ 3)):=by
 unfold ssa_isType.f
 by_cases h:1 ≤ t <;> simp [h]
theorem value_eq (fs:List S38) (m:Int) (v:S42):ssa_formedValue.f 4 fs m v.f0 v.f1 v.f2 v.f3 = some (valueB fs v):=by
 have hj:∀ b,ssa_formedValue.j0 4 b fs m v.f0 v.f1 v.f2 v.f3 = some (!b && (if v.f0 = 1 ∨ v.f0 = 33 then (v.f3.length:Int) == 0
  else if v.f0 = 32 then v.f2 == 0
  else if v.f0 = 25 then decide (0 ≤ v.f2) && decide (v.f2 < (fs.length:Int)) && (v.f3.length:Int) == ((rd_T38 fs v.f2).f1.length:Int)
  else if v.f0 = 28 ∨ v.f0 = 29 then (v.f3.length:Int) == 1 && decide (1 ≤ v.f2) && decide (v.f2 ≤ 5)
  else if v.f0 = 30 then (v.f3.length:Int) == 2 && decide (1 ≤ v.f2) && decide (v.f2 ≤ 5)
  else decide (0 ≤ operandsI v.f0) && (v.f3.length:Int) == operandsI v.f0 && v.f2 == 0)):=by
   intro b
   obtain ⟨op,ty,im,ar⟩:=v
   dsimp only
   cases b
   case true=>rfl
   simp only [ssa_formedValue.j0,ssa_formedValue.j1,ssa_formedValue.j2,Bool.not_false,Bool.true_and,Bool.false_eq_true,if_false]
   rw [operands_eq]
   generalize operandsI op = od
   generalize ((rd_T38 fs im).f1.length:Int) = pl
   generalize (fs.length:Int) = fl
   generalize (ar.length:Int) = al
   by_cases h1:op = 1
   ·subst h1;rfl
   by_cases h33:op = 33
   ·subst h33;rfl
   by_cases h32:op = 32
   ·subst h32;rfl
   by_cases h25:op = 25
   ·subst h25
    by_cases a:0 ≤ im <;> by_cases c:im < fl <;> simp [a,c]
   by_cases h28:op = 28
   ·subst h28
    by_cases a:al = 1 <;> by_cases c:1 ≤ im <;> simp [a,c]
   by_cases h29:op = 29
   ·subst h29
    by_cases a:al = 1 <;> by_cases c:1 ≤ im <;> simp [a,c]
   by_cases h30:op = 30
   ·subst h30
    by_cases a:al = 2 <;> by_cases c:1 ≤ im <;> simp [a,c]
   by_cases a:0 ≤ od <;> by_cases c:al = od <;> simp [*]
 unfold ssa_formedValue.f valueB
 by_cases h:v.f1 = 0
 ·rw [if_pos h,hj,h];rfl
 ·rw [if_neg h,isType_eq]
  simp only [Option.bind_some]
  rw [hj]
  congr 1
  rw [Bool.not_not]
  congr 1
  rw [Bool.eq_iff_iff];simp;omega
end Go.Proofs.Ytgbeliajhccndaa
end
section
set_option linter.unusedVariables false
set_option linter.unusedSimpArgs false
namespace Go.Proofs.Ytgbeliajhccndaa
open Go.RowKit Go.Proofs.YtgbeliajhccndaaW.PrintWords Go.Proofs.YtgbeliajhccndaaW.PrintLast Go.Proofs.YtgbeliajhccndaaW.PrintMore PP
def Stop (p:Prop):Prop:=p
theorem stop_intro {p:Prop} (h:Stop p):p:=h
def parB (f:S38):List Int → Int → Bool
 | [],_=>true
 | x :: r,i=>(opAt f x == 33 && (rd_T42 f.f3 x).f2 == i) && parB f r (i + 1)
def blockB (f:S38) (b:S46):Bool:=
 ((((b.f0.all (inB f.f3.length) && b.f1.all (inB f.f3.length)) && b.f3.all (inB f.f4.length)) && b.f2.f2.all (inB f.f4.length)) && termB f b.f2) && (b.f0.all (fun x=>opAt f x != 33) && b.f1.all (fun x=>opAt f x != 33))
def headB (f:S38):Bool:=decide (f.f1.length ≤ 8) && decide (f.f3.length < 262144) && decide (f.f4.length ≠ 0) && (decide (0 ≤ f.f2) && decide (f.f2 ≤ 3)) && f.f1.all (inB f.f3.length)
def qB (fs:List S38) (f:S38) (v:S42):Bool:=v.f3.all (inB f.f3.length) && valueB fs v
def funcB (fs:List S38) (f:S38):Bool:=
 headB f && f.f3.all (qB fs f) && parB f f.f1 0 && f.f4.all (blockB f)
theorem funcB_head {fs:List S38} {f:S38} (h:headB f = false):funcB fs f = false:=by unfold funcB;rw [h];rfl
theorem funcB_values {fs:List S38} {f:S38} (h:f.f3.all (qB fs f) = false):funcB fs f = false:=by unfold funcB;rw [h];simp
theorem funcB_pars {fs:List S38} {f:S38} (h:parB f f.f1 0 = false):funcB fs f = false:=by unfold funcB;rw [h];simp
theorem funcB_blocks {fs:List S38} {f:S38} (h:f.f4.all (blockB f) = false):funcB fs f = false:=by unfold funcB;rw [h];simp
theorem funcB_all {fs:List S38} {f:S38} (h1:headB f = true) (h2:f.f3.all (qB fs f) = true) (h3:parB f f.f1 0 = true) (h4:f.f4.all (blockB f) = true):funcB fs f = true:=by unfold funcB;rw [h1,h2,h3,h4];rfl
theorem head_len {f:S38} (h:8 < (f.f1.length:Int)):headB f = false:=by
 unfold headB;rw [decide_eq_false (by omega:¬ f.f1.length ≤ 8)];rfl
theorem head_val {f:S38} (h:decide (262144 ≤ f.f3.length) = true):headB f = false:=by
 unfold headB;rw [decide_eq_false (by simp at h;omega:¬ f.f3.length < 262144)];simp
theorem head_blk {f:S38} (h:((f.f4.length:Int) == 0) = true):headB f = false:=by
 unfold headB;rw [decide_eq_false (by simp at h;simp [h]:¬ f.f4.length ≠ 0)];simp
theorem head_res {f:S38} (h:(f.f2 != 0) = true ∧ ((!decide (1 ≤ f.f2)) = true ∨ (!decide (f.f2 ≤ 3)) = true)):headB f = false:=by
 have e:(decide (0 ≤ f.f2) && decide (f.f2 ≤ 3)) = false:=by
  obtain ⟨a,b⟩:=h
  simp at a b
  simp;omega
 unfold headB;rw [e];simp
theorem head_par {f:S38} {b:Bool} (k:f.f1.all (inB f.f3.length) = b) (h:(!b) = true):headB f = false:=by
 unfold headB;rw [Bool.not_eq_true'] at h;rw [k,h];simp
theorem head_ok {f:S38} (h1:(f.f1.length:Int) ≤ 8) (h2:decide (262144 ≤ f.f3.length) = false) (h3:((f.f4.length:Int) == 0) = false) (h4:f.f2 = 0 ∨ ((f.f2 != 0) = false ∨ (!decide (1 ≤ f.f2)) = false ∧ (!decide (f.f2 ≤ 3)) = false)) {b:Bool} (h6:f.f1.all (inB f.f3.length) = b) (h5:(!b) = false):headB f = true:=by
 have e:(decide (0 ≤ f.f2) && decide (f.f2 ≤ 3)) = true:=by
  simp at h4
  simp;omega
 unfold headB
 rw [e,decide_eq_true (by omega:f.f1.length ≤ 8),decide_eq_true (by simp at h2;omega:f.f3.length < 262144),decide_eq_true (by simp at h3;simp [h3]:f.f4.length ≠ 0),h6,(by simpa using h5:b = true)]
 rfl
theorem res_absurd {a b c:Bool} (h:a = true ∧ (b = true ∨ c = true)) (k:a = false ∨ b = false ∧ c = false):False:=by
 revert h k;cases a <;> cases b <;> cases c <;> simp
theorem qB_no {fs:List S38} {f:S38} {x:S42} {b:Bool} (k:x.f3.all (inB f.f3.length) = b) (h:¬ b = true):qB fs f x = false:=by
 unfold qB;rw [k,Bool.eq_false_iff.2 h];rfl
theorem qB_no2 {fs:List S38} {f:S38} {x:S42} {b:Bool} (k:valueB fs x = b) (h:(!b) = true):qB fs f x = false:=by
 unfold qB;rw [k,(by simpa using h:b = false)];simp
theorem qB_ok {fs:List S38} {f:S38} {x:S42} {b b':Bool} (k:x.f3.all (inB f.f3.length) = b) (k':valueB fs x = b') (h:b = true) (h':(!b') = false):qB fs f x = true:=by
 unfold qB;rw [k,k',h,(by simpa using h':b' = true)];rfl
theorem par_stop {f:S38} {i:Nat} (hi:i < f.f1.length) (h:parB f f.f1 0 = parB f (f.f1.drop i) i) (hx:(opAt f (f.f1.getD i 0) == 33 && (rd_T42 f.f3 (f.f1.getD i 0)).f2 == (i:Int)) = false):parB f f.f1 0 = false:=by
 rw [h,List.drop_eq_getElem_cons hi,parB]
 simp [List.getD_eq_getElem?_getD,hi] at hx
 simp;intro a;exact fun b=>absurd b (hx a)
theorem par_next {f:S38} {i:Nat} (hi:i < f.f1.length) (h:parB f f.f1 0 = parB f (f.f1.drop i) i) (hx:(opAt f (f.f1.getD i 0) == 33 && (rd_T42 f.f3 (f.f1.getD i 0)).f2 == (i:Int)) = true):parB f f.f1 0 = parB f (f.f1.drop (i + 1)) ((i + 1:Nat):Int):=by
 rw [h,List.drop_eq_getElem_cons hi,parB]
 simp [List.getD_eq_getElem?_getD,hi] at hx
 simp [hx]
structure FW (w:World) (fs:List S38) (mn:Int) (A:Option Addr) (c:Nat) (p:Addr) (f:S38) (A1:Option Addr) (c1:Nat) (A3:Option Addr) (c3:Nat) (A4:Option Addr) (c4:Nat) (g2 g3:Nat):Prop where
 at_:FnAt w p f A1 c1 A3 c3 A4 c4
 fs_:k38.C w A fs.length fs
 b2:w.heap[g2]? = some (.cells #[.slice A fs.length c,.int .i64 mn] 24 (0,0))
 b3:w.heap[g3]? = some (.cells #[.pointer (some p)] 51 (0,0))
section
variable {w W:World} {fs:List S38} {mn:Int} {A A1 A3 A4:Option Addr} {c c1 c3 c4 g2 g3:Nat} {p:Addr} {f:S38}
theorem FW.below (h:FW w fs mn A c p f A1 c1 A3 c3 A4 c4 g2 g3) (hb:Below w.heap.size w W):FW W fs mn A c p f A1 c1 A3 c3 A4 c4 g2 g3:=
 ⟨h.at_.below hb,Kd.C_below h.fs_ hb,blkB hb h.b2,blkB hb h.b3⟩
theorem FW.p3 (h:FW w fs mn A c p f A1 c1 A3 c3 A4 c4 g2 g3):w.cell? ⟨g3,0,none⟩ = some (.pointer (some p)):=(blk_cell h.b3 0).trans rfl
theorem FW.s0 (h:FW w fs mn A c p f A1 c1 A3 c3 A4 c4 g2 g3):w.cell? ⟨g2,0,none⟩ = some (.slice A fs.length c):=(blk_cell h.b2 0).trans rfl
theorem FW.s1 (h:FW w fs mn A c p f A1 c1 A3 c3 A4 c4 g2 g3):w.cell? ⟨g2,1,none⟩ = some (.int .i64 mn):=(blk_cell h.b2 1).trans rfl
theorem FW.value (h:FW w fs mn A c p f A1 c1 A3 c3 A4 c4 g2 g3) (B:Option Addr) (d:Nat) (l:List Int) (hr:(Kd.int .i64).C w B l.length l) (hc:l.length ≤ d) :
 Calls Try.prog 42 #[.slice B l.length d,.func (.func 60) #[] #[.pointer (some ⟨g3,0,none⟩)]] w fun e w'=>∃ b,e = .returned (.bool b) ∧ Hid (l.all (inB f.f3.length) = b) ∧ Below w.heap.size w w':=(
 all_int 60 #[.pointer (some ⟨g3,0,none⟩)] (inB f.f3.length) B d l w hr hc enter60 (fun x _ W hb=>value_any g3 p f x A3 c3 W (h.below hb).p3 (h.below hb).at_.c3)).mono (fun e w' h=>⟨_,h.1,Lib.hid rfl,h.2⟩)
theorem FW.block (h:FW w fs mn A c p f A1 c1 A3 c3 A4 c4 g2 g3) (B:Option Addr) (d:Nat) (l:List Int) (hr:(Kd.int .i64).C w B l.length l) (hc:l.length ≤ d) :
 Calls Try.prog 42 #[.slice B l.length d,.func (.func 61) #[] #[.pointer (some ⟨g3,0,none⟩)]] w fun e w'=>∃ b,e = .returned (.bool b) ∧ Hid (l.all (inB f.f4.length) = b) ∧ Below w.heap.size w w':=(
 all_int 61 #[.pointer (some ⟨g3,0,none⟩)] (inB f.f4.length) B d l w hr hc enter61 (fun x _ W hb=>block_any g3 p f x A4 c4 W (h.below hb).p3 (h.below hb).at_.c4)).mono (fun e w' h=>⟨_,h.1,Lib.hid rfl,h.2⟩)
theorem FW.param (h:FW w fs mn A c p f A1 c1 A3 c3 A4 c4 g2 g3) (B:Option Addr) (d:Nat) (l:List Int) (hr:(Kd.int .i64).C w B l.length l) (hc:l.length ≤ d) (hl:l.all (inB f.f3.length) = true) :
 Calls Try.prog 42 #[.slice B l.length d,.func (.func 65) #[] #[.pointer (some ⟨g3,0,none⟩)]] w fun e w'=>∃ b,e = .returned (.bool b) ∧ Hid (l.all (fun x=>opAt f x != 33) = b) ∧ Below w.heap.size w w':=(
 all_int 65 #[.pointer (some ⟨g3,0,none⟩)] (fun x=>opAt f x != 33) B d l w hr hc enter65 (fun x hx W hb=>param_any g3 p f x A3 c3 W (h.below hb).p3 (h.below hb).at_.c3 (h.below hb).at_.r3 (List.all_eq_true.1 hl x hx))).mono (fun e w' h=>⟨_,h.1,Lib.hid rfl,h.2⟩)
end
structure BW (W:World) (fs:List S38) (mn:Int) (A:Option Addr) (c:Nat) (p:Addr) (f:S38) (A1:Option Addr) (c1:Nat) (A3:Option Addr) (c3:Nat) (A4:Option Addr) (c4:Nat) (g2 g3 g:Nat) (b:S46) (B0:Option Addr) (d0:Nat) (B1:Option Addr) (d1:Nat) (B4:Option Addr) (d4:Nat) (B5:Option Addr) (d5:Nat):Prop where
 fw:FW W fs mn A c p f A1 c1 A3 c3 A4 c4 g2 g3
 bk:W.heap[g]? = some (.cells #[.slice B0 b.f0.length d0,.slice B1 b.f1.length d1,.int .i64 b.f2.f0,.int .i64 b.f2.f1,.slice B4 b.f2.f2.length d4,.slice B5 b.f3.length d5] 46 (0,0))
section
variable {w W:World} {fs:List S38} {mn:Int} {A A1 A3 A4 B0 B1 B4 B5:Option Addr} {c c1 c3 c4 g2 g3 g d0 d1 d4 d5:Nat} {p:Addr} {f:S38} {b:S46}
theorem BW.below (h:BW w fs mn A c p f A1 c1 A3 c3 A4 c4 g2 g3 g b B0 d0 B1 d1 B4 d4 B5 d5) (hb:Below w.heap.size w W):BW W fs mn A c p f A1 c1 A3 c3 A4 c4 g2 g3 g b B0 d0 B1 d1 B4 d4 B5 d5:=⟨h.fw.below hb,blkB hb h.bk⟩
theorem BW.y0 (h:BW w fs mn A c p f A1 c1 A3 c3 A4 c4 g2 g3 g b B0 d0 B1 d1 B4 d4 B5 d5):w.cell? ⟨g,0,none⟩ = some (.slice B0 b.f0.length d0):=(blk_cell h.bk 0).trans rfl
theorem BW.y1 (h:BW w fs mn A c p f A1 c1 A3 c3 A4 c4 g2 g3 g b B0 d0 B1 d1 B4 d4 B5 d5):w.cell? ⟨g,1,none⟩ = some (.slice B1 b.f1.length d1):=(blk_cell h.bk 1).trans rfl
theorem BW.y2 (h:BW w fs mn A c p f A1 c1 A3 c3 A4 c4 g2 g3 g b B0 d0 B1 d1 B4 d4 B5 d5):w.cell? ⟨g,2,none⟩ = some (.int .i64 b.f2.f0):=(blk_cell h.bk 2).trans rfl
theorem BW.y3 (h:BW w fs mn A c p f A1 c1 A3 c3 A4 c4 g2 g3 g b B0 d0 B1 d1 B4 d4 B5 d5):w.cell? ⟨g,3,none⟩ = some (.int .i64 b.f2.f1):=(blk_cell h.bk 3).trans rfl
theorem BW.y4 (h:BW w fs mn A c p f A1 c1 A3 c3 A4 c4 g2 g3 g b B0 d0 B1 d1 B4 d4 B5 d5):w.cell? ⟨g,4,none⟩ = some (.slice B4 b.f2.f2.length d4):=(blk_cell h.bk 4).trans rfl
theorem BW.y5 (h:BW w fs mn A c p f A1 c1 A3 c3 A4 c4 g2 g3 g b B0 d0 B1 d1 B4 d4 B5 d5):w.cell? ⟨g,5,none⟩ = some (.slice B5 b.f3.length d5):=(blk_cell h.bk 5).trans rfl
end
theorem isType_any (x:Int) (w:World):Calls Try.prog 62 #[.int .i64 x] w fun e w'=>e = .returned (.bool (decide (1 ≤ x) && decide (x ≤ 3))) ∧ w = w':=by
 go_enter Try.func62,Try.ntmps62
 go_wp2
 all_goals
  go_ret
  exact ⟨ret_bool (by first | (simp [*];done) | (simp [*];omega)),rfl⟩
theorem FW.start {w:World} {fs:List S38} {mn:Int} {A A1 A3 A4:Option Addr} {c c1 c3 c4:Nat} {p:Addr} {f:S38} (hfs:k38.C w A fs.length fs) (hf:FnAt w p f A1 c1 A3 c3 A4 c4) :
 FW ((w.alloc (.cells #[.slice A fs.length c,.int .i64 mn] 24)).alloc (.cells #[.pointer (some p)] 51)) fs mn A c p f A1 c1 A3 c3 A4 c4 w.heap.size (w.heap.size + 1):=
 ⟨(hf.below ((Below.refl _ _).alloc (Nat.le_refl _) _)).below ((Below.refl _ _).alloc (Nat.le_refl _) _),Kd.C_alloc (Kd.C_alloc hfs _) _,blkB ((Below.refl _ _).alloc (Nat.le_refl _) _) (blk_new w _),by have:=blk_new (w.alloc (.cells #[.slice A fs.length c,.int .i64 mn] 24)) (.cells #[.pointer (some p)] 51);rwa [World.size_alloc] at this⟩
theorem value63 (fs:List S38) (mn:Int) (A B:Option Addr) (c d:Nat) (x:S42) (w:World) (hfs:k38.C w A fs.length fs) (hc:fs.length ≤ c) (hr:(Kd.int .i64).C w B x.f3.length x.f3) (hd:x.f3.length ≤ d) :
 Calls Try.prog 63 #[.agg #[.slice A fs.length c,.int .i64 mn],.agg #[.int .i64 x.f0,.int .i64 x.f1,.int .i64 x.f2,.slice B x.f3.length d]] w fun e w'=>∃ b,e = .returned (.bool b) ∧ Hid (valueB fs x = b) ∧ Below w.heap.size w w':=
 (ssa_formedValue.calls 4 A c fs mn x.f0 x.f1 x.f2 B d x.f3 _ w hfs hc hr hd (value_eq fs mn x)).mono (fun e w' h=>⟨_,h.1,Lib.hid rfl,h.2⟩)
theorem term64 (p:Addr) (f:S38) (t:S44) (A A1 A3 A4:Option Addr) (c c1 c3 c4:Nat) (w:World) (hf:FnAt w p f A1 c1 A3 c3 A4 c4) :
 Calls Try.prog 64 #[.pointer (some p),.agg #[.int .i64 t.f0,.int .i64 t.f1,.slice A t.f2.length c]] w fun e w'=>∃ b,e = .returned (.bool b) ∧ Hid (termB f t = b) ∧ Below w.heap.size w w':=
 (formedTerm_any p f t A A1 A3 A4 c c1 c3 c4 w hf).mono (fun e w' h=>⟨_,h.1,Lib.hid rfl,h.2⟩)
set_option maxRecDepth 100000 in
set_option maxHeartbeats 8000000 in
theorem formedFunc_any (fs:List S38) (mn:Int) (A:Option Addr) (c:Nat) (p:Addr) (f:S38) (A1:Option Addr) (c1:Nat) (A3:Option Addr) (c3:Nat) (A4:Option Addr) (c4:Nat) (w:World)
 (hfs:k38.C w A fs.length fs) (hc:fs.length ≤ c) (hf:FnAt w p f A1 c1 A3 c3 A4 c4) :
 Calls Try.prog 36 #[.agg #[.slice A fs.length c,.int .i64 mn],.pointer (some p)] w fun e w'=>e = .returned (.bool (funcB fs f)) ∧ Below w.heap.size w w':=by
 have HW:=Lib.hid (FW.start (mn:=mn) (c:=c) hfs hf)
 have hl1:=hf.l1
 have hl3:=hf.l3
 have hl4:=hf.l4
 have hm1:=hf.r1.2.1
 have hm3:=hf.r3.2.1
 have hm4:=hf.r4.2.1
 have HF:=Lib.hid hf
 have HS:=Lib.hid hfs
 have HC:=Lib.hid hc
 have e1:=fun o o'=>cellO (cellO hf.c1 o) o'
 have e2:=fun o o'=>cellO (cellO hf.c2 o) o'
 have e3:=fun o o'=>cellO (cellO hf.c3 o) o'
 have e4:=fun o o'=>cellO (cellO hf.c4 o) o'
 clear hf hfs hc
 go_enter Try.func36,Try.ntmps36
 have HB0:Hid (∀ o o',Below w.heap.size w ((w.alloc o).alloc o')):=Lib.hid (fun o o'=>below_alloc (below_alloc (Below.refl _ _) o) o')
 obtain ⟨b9,h9,h9',h9n⟩:∃ b,decide ((f.f3.length:Int) ≥ 262144) = b ∧ decide (262144 ≤ f.f3.length) = b ∧ decide ((262144:Int) ≤ (f.f3.length:Int)) = b:=⟨decide (262144 ≤ f.f3.length),by congr 1;simp;omega,rfl,by congr 1;simp;omega⟩
 have H9:=Lib.hid h9'
 cases b9
 case true=>
  go_wp2
  all_goals
   go_ret
   exact ⟨ret_bool (funcB_head (head_val H9.out)).symm,HB0.out _ _⟩
 go_wp2_with (first | (go_at_call 62;refine (isType_any _ _).mono ?_;rintro e w' ⟨rfl,rfl⟩) | (go_at_call 42;refine (HW.out.value _ _ _ (by exact HW.out.at_.r1) hl1).mono ?_;rintro e w1 ⟨b1,rfl,HA1,hb⟩;have HW1:=Lib.hid (HW.out.below hb);have HB1:Hid (Below w.heap.size w w1):=Lib.hid (below_then (HB0.out _ _) (by simp;omega) hb);clear hb e1 e2 e3 e4;have x3:=HW1.out.p3;have x5:=HW1.out.at_.c1;have x6:=HW1.out.at_.c2;have x7:=HW1.out.at_.c3;have x8:=HW1.out.at_.c4))
 any_goals
  go_ret
  refine ⟨ret_bool (funcB_head ?_).symm,by first | exact HB1.out | exact HB0.out _ _⟩
  first | exact head_len ‹_› | exact head_blk ‹_› | exact head_res ‹_› | exact head_par HA1.out ‹_›
 all_goals first | exact (res_absurd ‹_› ‹_›).elim | skip
 all_goals
  have HT:Hid (headB f = true):=Lib.hid (head_ok ‹_› H9.out ‹_› (by first | exact .inl ‹_› | exact .inr ‹_›) HA1.out ‹_›)
  obtain rfl:b1 = true:=by simpa using ‹(!b1) = false›
  clear HW
  go_loopg [60] (f.f3.length) (fun k v wr=>∃ i:Nat,i ≤ f.f3.length ∧ v = .int .i64 i ∧ Hid (i + k = f.f3.length) ∧ Hid (f.f3.all (qB fs f) = (f.f3.drop i).all (qB fs f)) ∧ Hid (Below w1.heap.size w1 wr))
  case atStart=>exact ⟨0,by omega,rfl,Lib.hid (by omega),Lib.hid (by simp),Lib.hid (Below.refl _ _)⟩
  case round=>
   obtain ⟨i,hi,rfl,HI,HP,HBr⟩:=hrel
   clear x3 x5 x6 x7 x8
   have HBc:=Lib.hid (below_then HB1.out HB1.out.size HBr.out)
   have HWc:=Lib.hid (HW1.out.below HBr.out)
   have x3:=HWc.out.p3
   have x8:=HWc.out.at_.c4
   by_cases hlt:i < f.f3.length
   ·obtain ⟨ad,B3,d3,hA,q0,q1,q2,q3,q4,q5⟩:=at_T42 HF.out.r3 (i:Int) (by omega) (by omega)
    obtain rfl:=hA
    rw [Int.toNat_natCast] at q0 q1 q2 q3
    have q0:=cellB HBc.out q0
    have q1:=cellB HBc.out q1
    have q2:=cellB HBc.out q2
    have q3:=cellB HBc.out q3
    have HX:=Lib.hid q5
    clear q5
    have hx0:rd_T42 f.f3 (i:Int) = f.f3.getD i z42:=by simp [rd_T42]
    have HST:=Lib.hid (all_stop (p:=qB fs f) (d:=z42) hlt HP.out)
    have HNX:=Lib.hid (all_next (p:=qB fs f) (d:=z42) hlt HP.out)
    rw [← hx0] at HST HNX
    clear hx0
    generalize rd_T42 f.f3 (i:Int) = x at *
    obtain ⟨O,hO⟩:∃ O:Obj,O = .cells #[.int .i64 x.f0,.int .i64 x.f1,.int .i64 x.f2,.slice B3 x.f3.length d3] 42:=⟨_,rfl⟩
    have HWa:=Lib.hid (HWc.out.below (below_alloc (Below.refl _ _) O))
    have HBa:=Lib.hid (below_alloc HBc.out O)
    have HBra:=Lib.hid (below_alloc HBr.out O)
    have HO:=Lib.hid hO
    have BK:=Lib.hid (blk_new wr O)
    rw [hO] at HWa HBa BK HBra
    clear hO
    go_wp2_with (first | (go_at_call 42;refine (HWa.out.value _ _ _ (by exact Kd.C_below HX.out HBa.out) q4).mono ?_;rintro e w2 ⟨b2,rfl,HA2,hb⟩;have HB2:=Lib.hid (below_then HBa.out HBa.out.size hb);have HBr2:=Lib.hid (below_then HBra.out HBra.out.size hb);have HW2:=Lib.hid (HWa.out.below hb);have BK2:=blkB hb BK.out;have y0:w2.cell? ⟨wr.heap.size,0,none⟩ = some (.int .i64 x.f0):=(blk_cell BK2 0).trans rfl;have y1:w2.cell? ⟨wr.heap.size,1,none⟩ = some (.int .i64 x.f1):=(blk_cell BK2 1).trans rfl;have y2:w2.cell? ⟨wr.heap.size,2,none⟩ = some (.int .i64 x.f2):=(blk_cell BK2 2).trans rfl;have y3:w2.cell? ⟨wr.heap.size,3,none⟩ = some (.slice B3 x.f3.length d3):=(blk_cell BK2 3).trans rfl;have s0:=HW2.out.s0;have s1:=HW2.out.s1;clear hb BK2) | (go_at_call 63;refine (value63 fs mn A B3 c d3 x _ (by exact HW2.out.fs_) HC.out (by exact Kd.C_below HX.out HB2.out) q4).mono ?_;rintro e w3 ⟨b3,rfl,HA3,hb⟩;have HB3:=Lib.hid (below_then HB2.out HB2.out.size hb);have HBn:=Lib.hid (below_then HBr2.out HBr2.out.size hb);clear hb))
    all_goals first
     | (go_ret
        refine ⟨ret_bool (funcB_values (HST.out ?_)).symm,by first | exact HB3.out | exact HB2.out⟩
        first | exact qB_no HA2.out ‹_› | exact qB_no2 HA3.out ‹_›)
     | (go_roundg (gk - 1)
        case measure=>have:=HI.out;omega
        case rel=>exact ⟨i + 1,by omega,by go_num,Lib.hid (by have:=HI.out;omega),Lib.hid (HNX.out (qB_ok HA2.out HA3.out ‹_› ‹_›)),HBn⟩)
   ·have HV:Hid (f.f3.all (qB fs f) = true):=Lib.hid (by rw [HP.out,List.drop_eq_nil_of_le (by omega)];rfl)
    have x5:=HWc.out.at_.c1
    have x7:=HWc.out.at_.c3
    clear HP HI
    go_wp2
    go_loopg [9,10,81] (f.f1.length) (fun k _ _ v wr2=>∃ i:Nat,i ≤ f.f1.length ∧ v = .int .i64 i ∧ Hid (i + k = f.f1.length) ∧ Hid (parB f f.f1 0 = parB f (f.f1.drop i) i) ∧ Hid (Below w1.heap.size w1 wr2))
    case atStart=>exact ⟨0,by omega,rfl,Lib.hid (by omega),Lib.hid (by simp),HBr⟩
    case round=>
     obtain ⟨j,hj,rfl,HJ,HQ,HBr2⟩:=hrel
     clear x3 x5 x7 x8
     clear HBr HBc HWc
     have HBd:=Lib.hid (below_then HB1.out HB1.out.size HBr2.out)
     have HWd:=Lib.hid (HW1.out.below HBr2.out)
     have x3:=HWd.out.p3
     have x7:=HWd.out.at_.c3
     have x8:=HWd.out.at_.c4
     by_cases hlt2:j < f.f1.length
     ·obtain ⟨ad1,hA1,h1⟩:=Kd.at_int HWd.out.at_.r1 (j:Int) (by omega) (by omega)
      obtain rfl:=hA1
      have e0:rd f.f1 (j:Int) = f.f1.getD j 0:=by simp [rd]
      rw [Int.toNat_natCast,e0] at h1
      have HST:=Lib.hid (par_stop hlt2 HQ.out)
      have HNX:=Lib.hid (par_next hlt2 HQ.out)
      have hin:inB f.f3.length (f.f1.getD j 0) = true:=List.all_eq_true.1 HA1.out _ (mem_getD 0 hlt2)
      unfold opAt at HST HNX
      clear e0
      generalize f.f1.getD j 0 = y at *
      have y0:0 ≤ y:=by simp [inB] at hin;omega
      have y1:y < (f.f3.length:Int):=by simp [inB] at hin;omega
      clear hin
      obtain ⟨ad3,B3,d3,hA3,q0,q1,q2,q3,q4,q5⟩:=at_T42 HWd.out.at_.r3 y y0 y1
      obtain rfl:=hA3
      clear q1 q3 q4 q5
      go_wp2
      all_goals first
       | (go_ret
          refine ⟨ret_bool (funcB_pars (HST.out ?_)).symm,HBd.out⟩
          first | (rw [Bool.and_eq_false_iff];left;simpa using ‹¬(rd_T42 f.f3 y).f0 = 33›) | (rw [Bool.and_eq_false_iff];right;simpa using ‹((rd_T42 f.f3 y).f2 != (j:Int)) = true›))
       | (go_roundg (gk - 1)
          case measure=>have:=HJ.out;omega
          case rel=>exact ⟨j + 1,by omega,by go_num,Lib.hid (by have:=HJ.out;omega),Lib.hid (HNX.out (by rw [Bool.and_eq_true];exact ⟨by simpa using ‹(rd_T42 f.f3 y).f0 = 33›,by simpa using ‹((rd_T42 f.f3 y).f2 != (j:Int)) = false›⟩)),HBr2⟩)
     ·have HPA:Hid (parB f f.f1 0 = true):=Lib.hid (by rw [HQ.out,List.drop_eq_nil_of_le (by omega)];rfl)
      clear HQ HJ
      go_wp2
      go_loopg [12,13,113] (f.f4.length) (fun k _ _ v wr3=>∃ i:Nat,i ≤ f.f4.length ∧ v = .int .i64 i ∧ Hid (i + k = f.f4.length) ∧ Hid (f.f4.all (blockB f) = (f.f4.drop i).all (blockB f)) ∧ Hid (Below w1.heap.size w1 wr3))
      case atStart=>exact ⟨0,by omega,rfl,Lib.hid (by omega),Lib.hid (by simp),HBr2⟩
      case round=>
       obtain ⟨l,hl,rfl,HL,HR,HBr3⟩:=hrel
       clear x3 x7 x8 HBd HWd HBr2
       have HBd:=Lib.hid (below_then HB1.out HB1.out.size HBr3.out)
       have HWd:=Lib.hid (HW1.out.below HBr3.out)
       by_cases hlt3:l < f.f4.length
       ·obtain ⟨ad4,B0,d0,B1,d1,B4,d4,B5,d5,hA4,q0,q1,q2,q3,q4,q5,l0,r0,l1,r1,l4,r4,l5,r5⟩:=at_T46 HF.out.r4 (l:Int) (by omega) (by omega)
        obtain rfl:=hA4
        rw [Int.toNat_natCast] at q0 q1 q2 q3 q4 q5
        have q0:=cellB HBd.out q0
        have q1:=cellB HBd.out q1
        have q2:=cellB HBd.out q2
        have q3:=cellB HBd.out q3
        have q4:=cellB HBd.out q4
        have q5:=cellB HBd.out q5
        have R0:=Lib.hid r0
        have R1:=Lib.hid r1
        have R4:=Lib.hid r4
        have R5:=Lib.hid r5
        clear r0 r1 r4 r5
        have hx0:rd_T46 f.f4 (l:Int) = f.f4.getD l z46:=by simp [rd_T46]
        have HST:=Lib.hid (all_stop (p:=blockB f) (d:=z46) hlt3 HR.out)
        have HNX:=Lib.hid (all_next (p:=blockB f) (d:=z46) hlt3 HR.out)
        rw [← hx0] at HST HNX
        clear hx0
        generalize rd_T46 f.f4 (l:Int) = b at *
        obtain ⟨O,hO⟩:∃ O:Obj,O = .cells #[.slice B0 b.f0.length d0,.slice B1 b.f1.length d1,.int .i64 b.f2.f0,.int .i64 b.f2.f1,.slice B4 b.f2.f2.length d4,.slice B5 b.f3.length d5] 46:=⟨_,rfl⟩
        have HBe:=Lib.hid (below_alloc HBd.out O)
        have HBs:=Lib.hid (below_alloc HBr3.out O)
        have HWe:=Lib.hid (HWd.out.below (below_alloc (Below.refl _ _) O))
        have BK:=Lib.hid (blk_new wr O)
        rw [hO] at HBe HBs HWe BK
        clear hO
        have HE:Hid (BW _ fs mn A c p f A1 c1 A3 c3 (some ad4) c4 _ _ wr.heap.size b B0 d0 B1 d1 B4 d4 B5 d5):=Lib.hid ⟨HWe.out,BK.out⟩
        clear HWe BK
        have p3:=HE.out.fw.p3
        have y0:=HE.out.y0
        have y1:=HE.out.y1
        have y2:=HE.out.y2
        have y3:=HE.out.y3
        have y4:=HE.out.y4
        have y5:=HE.out.y5
        by_cases hK:((((b.f0.all (inB f.f3.length) && b.f1.all (inB f.f3.length)) && b.f3.all (inB f.f4.length)) && b.f2.f2.all (inB f.f4.length)) && termB f b.f2) = true
        ·obtain ⟨K0,K1,K2,K3,K4⟩:Hid (b.f0.all (inB f.f3.length) = true) ∧ Hid (b.f1.all (inB f.f3.length) = true) ∧ Hid (b.f3.all (inB f.f4.length) = true) ∧ Hid (b.f2.f2.all (inB f.f4.length) = true) ∧ Hid (termB f b.f2 = true):=by
          rw [Bool.and_eq_true,Bool.and_eq_true,Bool.and_eq_true,Bool.and_eq_true] at hK
          exact ⟨Lib.hid hK.1.1.1.1,Lib.hid hK.1.1.1.2,Lib.hid hK.1.1.2,Lib.hid hK.1.2,Lib.hid hK.2⟩
         clear hK
         go_wp2_with (first | (go_at_call 42;with_reducible refine Calls.mono (HE.out.fw.value B0 d0 b.f0 ?_ l0) ?_;exact Kd.C_below R0.out HBe.out;rintro e wn ⟨t0,rfl,HA0,hb⟩;obtain rfl:t0 = true:=HA0.out.symm.trans K0.out;replace HBe:=Lib.hid (below_then HBe.out HBe.out.size hb);replace HBs:=Lib.hid (below_then HBs.out HBs.out.size hb);replace HE:=Lib.hid (HE.out.below hb);clear hb;replace p3:=HE.out.fw.p3;replace y0:=HE.out.y0;replace y1:=HE.out.y1;replace y2:=HE.out.y2;replace y3:=HE.out.y3;replace y4:=HE.out.y4;replace y5:=HE.out.y5) | (go_at_call 42;with_reducible refine Calls.mono (HE.out.fw.value B1 d1 b.f1 ?_ l1) ?_;exact Kd.C_below R1.out HBe.out;rintro e wn ⟨t1,rfl,HA1,hb⟩;obtain rfl:t1 = true:=HA1.out.symm.trans K1.out;replace HBe:=Lib.hid (below_then HBe.out HBe.out.size hb);replace HBs:=Lib.hid (below_then HBs.out HBs.out.size hb);replace HE:=Lib.hid (HE.out.below hb);clear hb;replace p3:=HE.out.fw.p3;replace y0:=HE.out.y0;replace y1:=HE.out.y1;replace y2:=HE.out.y2;replace y3:=HE.out.y3;replace y4:=HE.out.y4;replace y5:=HE.out.y5) | (go_at_call 42;with_reducible refine Calls.mono (HE.out.fw.block B5 d5 b.f3 ?_ l5) ?_;exact Kd.C_below R5.out HBe.out;rintro e wn ⟨t2,rfl,HA2,hb⟩;obtain rfl:t2 = true:=HA2.out.symm.trans K2.out;replace HBe:=Lib.hid (below_then HBe.out HBe.out.size hb);replace HBs:=Lib.hid (below_then HBs.out HBs.out.size hb);replace HE:=Lib.hid (HE.out.below hb);clear hb;replace p3:=HE.out.fw.p3;replace y0:=HE.out.y0;replace y1:=HE.out.y1;replace y2:=HE.out.y2;replace y3:=HE.out.y3;replace y4:=HE.out.y4;replace y5:=HE.out.y5) | (go_at_call 42;with_reducible refine Calls.mono (HE.out.fw.block B4 d4 b.f2.f2 ?_ l4) ?_;exact Kd.C_below R4.out HBe.out;rintro e wn ⟨t3,rfl,HA3,hb⟩;obtain rfl:t3 = true:=HA3.out.symm.trans K3.out;replace HBe:=Lib.hid (below_then HBe.out HBe.out.size hb);replace HBs:=Lib.hid (below_then HBs.out HBs.out.size hb);replace HE:=Lib.hid (HE.out.below hb);clear hb;replace p3:=HE.out.fw.p3;replace y0:=HE.out.y0;replace y1:=HE.out.y1;replace y2:=HE.out.y2;replace y3:=HE.out.y3;replace y4:=HE.out.y4;replace y5:=HE.out.y5) | (go_at_call 64;with_reducible refine Calls.mono (term64 p f b.f2 B4 A1 A3 (some ad4) d4 c1 c3 c4 _ ?_) ?_;exact HE.out.fw.at_;rintro e wn ⟨t4,rfl,HA4,hb⟩;obtain rfl:t4 = true:=HA4.out.symm.trans K4.out;replace HBe:=Lib.hid (below_then HBe.out HBe.out.size hb);replace HBs:=Lib.hid (below_then HBs.out HBs.out.size hb);replace HE:=Lib.hid (HE.out.below hb);clear hb;replace p3:=HE.out.fw.p3;replace y0:=HE.out.y0;replace y1:=HE.out.y1;replace y2:=HE.out.y2;replace y3:=HE.out.y3;replace y4:=HE.out.y4;replace y5:=HE.out.y5) | (go_at_call 42;with_reducible refine Calls.mono (HE.out.fw.param B0 d0 b.f0 ?_ l0 K0.out) ?_;exact Kd.C_below R0.out HBe.out;rintro e wn ⟨t5,rfl,HA5,hb⟩;replace HBe:=Lib.hid (below_then HBe.out HBe.out.size hb);replace HBs:=Lib.hid (below_then HBs.out HBs.out.size hb);replace HE:=Lib.hid (HE.out.below hb);clear hb;replace p3:=HE.out.fw.p3;replace y0:=HE.out.y0;replace y1:=HE.out.y1;replace y2:=HE.out.y2;replace y3:=HE.out.y3;replace y4:=HE.out.y4;replace y5:=HE.out.y5) | (go_at_call 42;with_reducible refine Calls.mono (HE.out.fw.param B1 d1 b.f1 ?_ l1 K1.out) ?_;exact Kd.C_below R1.out HBe.out;rintro e wn ⟨t6,rfl,HA6,hb⟩;replace HBe:=Lib.hid (below_then HBe.out HBe.out.size hb);replace HBs:=Lib.hid (below_then HBs.out HBs.out.size hb);replace HE:=Lib.hid (HE.out.below hb);clear hb;replace p3:=HE.out.fw.p3;replace y0:=HE.out.y0;replace y1:=HE.out.y1;replace y2:=HE.out.y2;replace y3:=HE.out.y3;replace y4:=HE.out.y4;replace y5:=HE.out.y5) | (go_at_call 42;refine stop_intro ?_) | (go_at_call 64;refine stop_intro ?_))
         all_goals first
          | (go_ret
             refine ⟨ret_bool (funcB_blocks (HST.out ?_)).symm,HBe.out⟩
             first | (unfold blockB;rw [HA5.out,(Bool.eq_false_iff.2 ‹¬t5 = true›)];simp;done) | (unfold blockB;rw [HA6.out,(by simpa using ‹(!t6) = true›:t6 = false)];simp;done))
          | (go_roundg (gk - 1)
             case measure=>have:=HL.out;omega
             case rel=>exact ⟨l + 1,by omega,by go_num,Lib.hid (by have:=HL.out;omega),Lib.hid (HNX.out (by unfold blockB;rw [K0.out,K1.out,K2.out,K3.out,K4.out,HA5.out,HA6.out,‹t5 = true›,(by simpa using ‹(!t6) = false›:t6 = true)];rfl)),HBs⟩)
        ·have HK:=Lib.hid hK
         clear hK
         go_wp2_with (first | (go_at_call 42;with_reducible refine Calls.mono (HE.out.fw.value B0 d0 b.f0 ?_ l0) ?_;exact Kd.C_below R0.out HBe.out;rintro e wn ⟨t0,rfl,HA0,hb⟩;replace HBe:=Lib.hid (below_then HBe.out HBe.out.size hb);replace HBs:=Lib.hid (below_then HBs.out HBs.out.size hb);replace HE:=Lib.hid (HE.out.below hb);clear hb;replace p3:=HE.out.fw.p3;replace y0:=HE.out.y0;replace y1:=HE.out.y1;replace y2:=HE.out.y2;replace y3:=HE.out.y3;replace y4:=HE.out.y4;replace y5:=HE.out.y5) | (go_at_call 42;with_reducible refine Calls.mono (HE.out.fw.value B1 d1 b.f1 ?_ l1) ?_;exact Kd.C_below R1.out HBe.out;rintro e wn ⟨t1,rfl,HA1,hb⟩;replace HBe:=Lib.hid (below_then HBe.out HBe.out.size hb);replace HBs:=Lib.hid (below_then HBs.out HBs.out.size hb);replace HE:=Lib.hid (HE.out.below hb);clear hb;replace p3:=HE.out.fw.p3;replace y0:=HE.out.y0;replace y1:=HE.out.y1;replace y2:=HE.out.y2;replace y3:=HE.out.y3;replace y4:=HE.out.y4;replace y5:=HE.out.y5) | (go_at_call 42;with_reducible refine Calls.mono (HE.out.fw.block B5 d5 b.f3 ?_ l5) ?_;exact Kd.C_below R5.out HBe.out;rintro e wn ⟨t2,rfl,HA2,hb⟩;replace HBe:=Lib.hid (below_then HBe.out HBe.out.size hb);replace HBs:=Lib.hid (below_then HBs.out HBs.out.size hb);replace HE:=Lib.hid (HE.out.below hb);clear hb;replace p3:=HE.out.fw.p3;replace y0:=HE.out.y0;replace y1:=HE.out.y1;replace y2:=HE.out.y2;replace y3:=HE.out.y3;replace y4:=HE.out.y4;replace y5:=HE.out.y5) | (go_at_call 42;with_reducible refine Calls.mono (HE.out.fw.block B4 d4 b.f2.f2 ?_ l4) ?_;exact Kd.C_below R4.out HBe.out;rintro e wn ⟨t3,rfl,HA3,hb⟩;replace HBe:=Lib.hid (below_then HBe.out HBe.out.size hb);replace HBs:=Lib.hid (below_then HBs.out HBs.out.size hb);replace HE:=Lib.hid (HE.out.below hb);clear hb;replace p3:=HE.out.fw.p3;replace y0:=HE.out.y0;replace y1:=HE.out.y1;replace y2:=HE.out.y2;replace y3:=HE.out.y3;replace y4:=HE.out.y4;replace y5:=HE.out.y5) | (go_at_call 64;with_reducible refine Calls.mono (term64 p f b.f2 B4 A1 A3 (some ad4) d4 c1 c3 c4 _ ?_) ?_;exact HE.out.fw.at_;rintro e wn ⟨t4,rfl,HA4,hb⟩;replace HBe:=Lib.hid (below_then HBe.out HBe.out.size hb);replace HBs:=Lib.hid (below_then HBs.out HBs.out.size hb);replace HE:=Lib.hid (HE.out.below hb);clear hb;replace p3:=HE.out.fw.p3;replace y0:=HE.out.y0;replace y1:=HE.out.y1;replace y2:=HE.out.y2;replace y3:=HE.out.y3;replace y4:=HE.out.y4;replace y5:=HE.out.y5) | (go_at_call 42;refine stop_intro ?_) | (go_at_call 64;refine stop_intro ?_))
         all_goals first
          | (go_ret
             exact ⟨ret_bool (funcB_blocks (HST.out (by unfold blockB;rw [Bool.eq_false_iff.2 HK.out];rfl))).symm,HBe.out⟩)
          | exact (HK.out (by rw [HA0.out,HA1.out,HA2.out,HA3.out,HA4.out,‹t0 = true›,‹t1 = true›,‹t2 = true›,‹t3 = true›,(by simpa using ‹(!t4) = false›:t4 = true)];rfl)).elim
       ·go_wp2
        go_ret
        exact ⟨ret_bool (funcB_all HT.out HV.out HPA.out (by rw [HR.out,List.drop_eq_nil_of_le (by omega)];rfl)).symm,HBd.out⟩
end Go.Proofs.Ytgbeliajhccndaa
end
