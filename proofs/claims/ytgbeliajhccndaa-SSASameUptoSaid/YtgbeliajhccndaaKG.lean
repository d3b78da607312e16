/- Lemmas of this claim (LxA,LxB,LxC,LxD,LxE,LxF). -/
import Derived.Test.YtgbeliajhccndaaProg
import Derived.Below
import Derived.Deep.Draws
import Derived.Deep.AppendLies
import Derived.OwnWalk
import Derived.Laws.BytesArg
import Derived.Laws.MakeOwn
import Derived.Laws.OwnMore
import Derived.Deep.OwnRows
import Derived.Tactics
import Derived.Lib.ConvBytes
import Derived.Laws.Slices
import Derived.WalkKit
import Derived.KernelRfl
import Derived.RowKit3
import Derived.Deep.LoopGhost
import Derived.Deep.QuietTactic
import Derived.BigQuiet
import Derived.WideLaws
import Derived.Deep.DeepCutAuto
import Derived.Deep.RegionHeld3
import Derived.Laws.Rows
import Derived.Lib.Hide
import Derived.Outline
import Derived.Test.YtgbeliajhccndaaKA
import Derived.Test.YtgbeliajhccndaaKB
import Derived.Test.YtgbeliajhccndaaKC
import Derived.Deep.RegionWith
section
set_option linter.unusedVariables false
set_option linter.unusedSimpArgs false
namespace Go.Proofs.Ytgbeliajhccndaa.Lex
open Go.RowKit Go.Proofs.YtgbeliajhccndaaW.PrintWords Go.Proofs.YtgbeliajhccndaaW.PrintLast Go.Proofs.YtgbeliajhccndaaW.PrintMore
theorem ret_int {k:IntKind} {a b:Int} (h:a = b):Ending.returned (.int k a) = .returned (.int k b):=by rw [h]
def cls (c:Int):Int:=
 if c = 95 ∨ (97 ≤ c ∧ c ≤ 122) ∨ (65 ≤ c ∧ c ≤ 90) then 3
 else if 48 ≤ c ∧ c ≤ 57 then 2
 else if c = 9 ∨ c = 10 ∨ c = 13 ∨ c = 32 then 1
 else if 32 < c ∧ c < 127 then 4 else 0
set_option maxHeartbeats 1000000 in
theorem class_any (c:Int) (h0:0 ≤ c) (h1:c ≤ 255) (w:World) :
 Calls Try.prog 88 #[.int .u8 c] w fun e w'=>e = .returned (.int .i64 (cls c)) ∧ w = w':=by
 go_enter Try.func88,Try.ntmps88
 go_wp2
 all_goals
  go_ret
  refine ⟨ret_int ?_,rfl⟩
  simp only [beq_iff_eq,beq_eq_false_iff_ne,ne_eq] at *
  unfold cls
  first
  | (rw [if_pos (by omega)];done)
  | (rw [if_neg (by omega),if_pos (by omega)];done)
  | (rw [if_neg (by omega),if_neg (by omega),if_pos (by omega)];done)
  | (rw [if_neg (by omega),if_neg (by omega),if_neg (by omega),if_pos (by omega)];done)
  | (rw [if_neg (by omega),if_neg (by omega),if_neg (by omega),if_neg (by omega)];done)
theorem info5:(Try.prog.info? 5).map (fun i=>(i.zero,i.size,i.bytes)) = some (some (.int .u8 0),1,1):=by kernel_rfl
theorem info5s:∃ i,Try.prog.info? 5 = some i ∧ i.size = 1:=by
 obtain ⟨i,h,e⟩:=Option.map_eq_some_iff.1 info5
 simp only [Prod.mk.injEq] at e
 exact ⟨i,h,e.2.1⟩
set_option maxHeartbeats 1000000 in
theorem rest_any (B:Nat) (A:Option Addr) (n c p:Nat) (w:World) (h0:w.cell? ⟨B,0,none⟩ = some (.slice A n c)) (h1:w.cell? ⟨B,1,none⟩ = some (.int .i64 (p:Int))) (hp:p ≤ n) :
 Calls Try.prog 89 #[.pointer (some ⟨B,0,none⟩)] w fun e w'=>∃ A':Option Addr,e = .returned (.slice A' (n - p) (c - p)) ∧
  (∀ (w:World) (k:IntKind) (xs:List Int),n ≤ c → ReadsInt w k A n xs → ReadsInt w k A' (n - p) (xs.drop p)) ∧ ∃ nq,w' = w.drewN nq:=by
 obtain ⟨i5,hi5,hs5⟩:=info5s
 obtain ⟨A',hcut,hrd⟩:=print_cut (P:=Try.prog) 52 5 .i64 Try.underlying52 hi5 hs5 A n c p hp
 have HRD:=Lib.hid hrd
 clear hrd
 go_enter Try.func89,Try.ntmps89
 go_wp2
 go_quiet (fail)
 go_wp2
 go_ret
 exact ⟨A',rfl,HRD.out,nq,rfl⟩
end Go.Proofs.Ytgbeliajhccndaa.Lex
end
section
set_option linter.unusedVariables false
set_option linter.unusedSimpArgs false
namespace Go.Proofs.Ytgbeliajhccndaa.Lex
open Go.RowKit Go.Proofs.YtgbeliajhccndaaW.PrintWords Go.Proofs.YtgbeliajhccndaaW.PrintLast Go.Proofs.YtgbeliajhccndaaW.PrintMore
def strOk (b:Bool) (c:Int):Bool:=(cls c == 3 && b) || cls c == 2
def strL (b:Bool) (l:List Int):Nat:=(l.takeWhile (strOk b)).length
theorem strL_cons (b:Bool) (c:Int) (l:List Int):strL b (c :: l) = if strOk b c then strL b l + 1 else 0:=by
 unfold strL
 rw [List.takeWhile_cons]
 split <;> simp
theorem drop_rd (l:List Int) (k:Nat) (h:k < l.length):l.drop k = rd l k :: l.drop (k + 1):=by
 rw [List.drop_eq_getElem_cons h]
 simp [rd,List.getD_eq_getElem?_getD,List.getElem?_eq_getElem h]
theorem strL_step (b:Bool) (l:List Int) (k:Nat) (h:k < l.length):strL b (l.drop k) = if strOk b (rd l k) then strL b (l.drop (k + 1)) + 1 else 0:=by
 rw [drop_rd l k h,strL_cons]
theorem strL_end (b:Bool) (l:List Int) (k:Nat) (h:l.length ≤ k):strL b (l.drop k) = 0:=by
 rw [List.drop_eq_nil_of_le h];rfl
def byteRange (l:List Int):Prop:=∀ i:Int,0 ≤ rd l i ∧ rd l i ≤ 255
theorem byteRange.drop {l:List Int} (h:byteRange l) (k:Nat):byteRange (l.drop k):=by
 intro i
 have e:rd (l.drop k) i = rd l ((k + i.toNat:Nat):Int):=by
  unfold rd
  rw [Int.toNat_natCast]
  simp [List.getD_eq_getElem?_getD,List.getElem?_drop]
 rw [e]
 exact h _
theorem byteRange.take {l:List Int} (h:byteRange l) (k:Nat):byteRange (l.take k):=by
 intro i
 by_cases hi:i.toNat < k
 ·have e:rd (l.take k) i = rd l i:=by simp [rd,List.getD_eq_getElem?_getD,List.getElem?_take,hi]
  rw [e];exact h _
 ·have e:rd (l.take k) i = 0:=by simp [rd,List.getD_eq_getElem?_getD,List.getElem?_take,hi]
  rw [e];omega
theorem str_stop {b:Bool} {l xs:List Int} {p k:Nat} {cv:Int} (hxs:l.drop p = xs) (hk:strL b xs = k + strL b (xs.drop k)) (hlt:k < xs.length) (hcv:rd xs k = cv) (hs:strOk b cv = false):(k:Int) = strL b (l.drop p):=by
 rw [hxs,hk,strL_step b xs k hlt,hcv,hs]
 simp
theorem str_go {b:Bool} {xs:List Int} {k:Nat} {cv:Int} (hk:strL b xs = k + strL b (xs.drop k)) (hlt:k < xs.length) (hcv:rd xs k = cv) (hs:strOk b cv = true):strL b xs = (k + 1) + strL b (xs.drop (k + 1)):=by
 rw [hk,strL_step b xs k hlt,hcv,hs]
 simp;omega
theorem str_end {b:Bool} {l xs:List Int} {p k:Nat} (hxs:l.drop p = xs) (hk:strL b xs = k + strL b (xs.drop k)) (hge:xs.length ≤ k):(k:Int) = strL b (l.drop p):=by
 rw [hxs,hk,strL_end b xs k hge]
 simp
set_option maxHeartbeats 1000000 in
theorem stretch_any (B:Nat) (b:Bool) (A:Option Addr) (n c p:Nat) (l:List Int) (w:World) (h0:w.cell? ⟨B,0,none⟩ = some (.slice A n c)) (h1:w.cell? ⟨B,1,none⟩ = some (.int .i64 (p:Int))) (hp:p ≤ n)
 (hnc:n ≤ c) (hr:ReadsInt w .u8 A n l) (hb:byteRange l) :
 Calls Try.prog 93 #[.pointer (some ⟨B,0,none⟩),.bool b] w fun e w'=>e = .returned (.int .i64 (strL b (l.drop p))) ∧ ∃ nq,w' = w.drewN nq:=by
 have hb':=hb.drop p
 have HR:=Lib.hid hr
 clear hr hb
 go_enter Try.func93,Try.ntmps93
 go_wp2
 go_step3
 go_wp2
 go_step3
 go_wp2_with (go_at_call 89;refine (rest_any B A n c p _ h0 h1 hp).mono ?_;rintro e w' ⟨A',rfl,HRD,nq,rfl⟩)
 have hx:=HRD w .u8 l hnc HR.out
 clear HRD h0 h1
 generalize hxs:l.drop p = xs at *
 generalize hm:n - p = m at *
 have hmb:=hx.2.1
 have hlen:=hx.1
 have HX:=Lib.hid hx
 have HM:=Lib.hid hm
 have HXS:=Lib.hid hxs
 have HLEN:=Lib.hid hlen
 clear hx hm hxs hlen HR
 go_loop [5,11] (fun t i=>∃ k:Nat,k ≤ m ∧ i = .int .i64 k ∧ t = .int .i64 k ∧ Hid (strL b xs = k + strL b (xs.drop k))) (fun _ i=>m - (intOf i).toNat)
 case atStart=>exact ⟨0,by omega,rfl,rfl,Lib.hid (by simp)⟩
 case round=>
  obtain ⟨k,hk,rfl,rfl,HK⟩:=hrel
  by_cases hlt:k < m
  ·obtain ⟨ad,hA,hcell⟩:=HX.out.at_ (k:Int) (by omega) (by omega)
   obtain rfl:=hA
   rw [Int.toNat_natCast] at hcell
   have hbk:=hb' k
   generalize hcv:rd xs k = cv at *
   have HCV:=Lib.hid hcv
   clear hcv
   cases b
   all_goals
    go_wp2_with (go_at_call 88;refine (class_any _ hbk.1 hbk.2 _).mono ?_;rintro e w' ⟨rfl,rfl⟩)
   ·rw [Exit.noGoto_ret]
    go_ret
    exact ⟨ret_int (str_stop HXS.out HK.out (by rw [HLEN.out];exact hlt) HCV.out (by simp [strOk];simp_all)),nq,rfl⟩
   ·go_round
    case rel=>exact ⟨k + 1,by omega,by go_num,by go_num,Lib.hid (str_go HK.out (by rw [HLEN.out];exact hlt) HCV.out (by simp [strOk];simp_all))⟩
    case measure=>simp [intOf];omega
   ·rw [Exit.noGoto_ret]
    go_ret
    exact ⟨ret_int (str_stop HXS.out HK.out (by rw [HLEN.out];exact hlt) HCV.out (by simp [strOk];simp_all)),nq,rfl⟩
   ·go_round
    case rel=>exact ⟨k + 1,by omega,by go_num,by go_num,Lib.hid (str_go HK.out (by rw [HLEN.out];exact hlt) HCV.out (by simp [strOk];simp_all))⟩
    case measure=>simp [intOf];omega
   ·go_round
    case rel=>exact ⟨k + 1,by omega,by go_num,by go_num,Lib.hid (str_go HK.out (by rw [HLEN.out];exact hlt) HCV.out (by simp [strOk];simp_all))⟩
    case measure=>simp [intOf];omega
   ·rw [Exit.noGoto_ret]
    go_ret
    exact ⟨ret_int (str_stop HXS.out HK.out (by rw [HLEN.out];exact hlt) HCV.out (by simp [strOk];simp_all)),nq,rfl⟩
  ·go_wp2
   go_ret
   exact ⟨ret_int (str_end HXS.out HK.out (by rw [HLEN.out];omega)),nq,rfl⟩
end Go.Proofs.Ytgbeliajhccndaa.Lex
end
section
set_option linter.unusedVariables false
set_option linter.unusedSimpArgs false
namespace Go.Proofs.Ytgbeliajhccndaa.Lex
open Go.RowKit Go.Proofs.YtgbeliajhccndaaW.PrintWords Go.Proofs.YtgbeliajhccndaaW.PrintLast Go.Proofs.YtgbeliajhccndaaW.PrintMore
def RS (w:World) (B:Nat) (A:Option Addr) (n c p:Nat):Prop:=w.heap[B]? = some (.cells #[.slice A n c,.int .i64 (p:Int)] 110 (0,0))
section
variable {w w':World} {B:Nat} {A:Option Addr} {n c p:Nat}
theorem RS.c0 (h:RS w B A n c p):w.cell? ⟨B,0,none⟩ = some (.slice A n c):=by
 unfold RS at h;simp [World.cell?,h]
theorem RS.c1 (h:RS w B A n c p):w.cell? ⟨B,1,none⟩ = some (.int .i64 (p:Int)):=by
 unfold RS at h;simp [World.cell?,h]
theorem RS.f1 (h:RS w B A n c p):w.frozen? ⟨B,1,none⟩ = false:=by
 unfold RS at h;simp [World.frozen?,h]
theorem RS.set (h:RS w B A n c p) (q:Nat):RS (w.setCell ⟨B,1,none⟩ (.int .i64 (q:Int))) B A n c q:=by
 unfold RS at h ⊢
 have hl:B < w.heap.size:=(Array.getElem?_eq_some_iff.1 h).1
 have he:w.heap[B] = .cells #[.slice A n c,.int .i64 (p:Int)] 110 (0,0):=(Array.getElem?_eq_some_iff.1 h).2
 simp [World.setCell,Array.getElem_modify,hl,he]
theorem RS.drewN (h:RS w B A n c p) (k:Nat):RS (w.drewN k) B A n c p:=h
theorem RS.lt (h:RS w B A n c p):B < w.heap.size:=(Array.getElem?_eq_some_iff.1 h).1
theorem RS.grown (h:RS w B A n c p) {row:Option Nat} (hg:w.grownBy w' row) (hne:some B ≠ row):RS w' B A n c p:=(hg.block B h.lt hne).trans h
theorem grown_set (w:World) (B j:Nat) (v:Value):w.grownBy (w.setCell ⟨B,j,none⟩ v) (some B):=
 ⟨rfl,rfl,rfl,by simp [World.setCell],fun k hk hne=>Below.heap_setCell w ⟨B,j,none⟩ v k (fun e=>hne (by rw [e]))⟩
theorem grown_drewN (w:World) (k:Nat) (row:Option Nat):w.grownBy (w.drewN k) row:=⟨rfl,rfl,rfl,Nat.le_refl _,fun _ _ _=>rfl⟩
def Far (A:Option Addr) (B n:Nat):Prop:=0 < n → ∀ ad,A = some ad → ad.block ≠ B
theorem reads_grown {k:IntKind} {xs:List Int} (h:ReadsInt w k A n xs) (hg:w.grownBy w' (some B)) (hf:Far A B n):ReadsInt w' k A n xs:=by
 refine ⟨h.1,h.2.1,fun hn=>?_⟩
 obtain ⟨ad,e,hc⟩:=h.2.2 hn
 refine ⟨ad,e,fun j hj=>hg.cell (hc j hj) ?_⟩
 have hb:=hf hn ad e
 have:(ad.add j).block = ad.block:=by unfold Addr.add;split <;> rfl
 rw [this]
 exact fun he=>hb (Option.some.inj he)
end
def skipL:Bool → List Int → Nat × Bool
 | _,[]=>(0,true)
 | true,c :: r=>if cls c = 0 then (0,false) else ((skipL (c != 10) r).1 + 1,(skipL (c != 10) r).2)
 | false,c :: r=>if cls c = 1 then ((skipL false r).1 + 1,(skipL false r).2)
   else if c = 47 ∧ r ≠ [] ∧ rd r 0 = 47 then ((skipL true r).1 + 1,(skipL true r).2) else (0,true)
def SkipTo (l:List Int) (cm:Bool) (q t:Nat) (ok:Bool):Prop:=q + (skipL cm (l.drop q)).1 = t ∧ (skipL cm (l.drop q)).2 = ok
theorem skip_end {l:List Int} {cm ok:Bool} {q t:Nat} (h:SkipTo l cm q t ok) (hq:l.length ≤ q):t = q ∧ ok = true:=by
 unfold SkipTo at h
 rw [List.drop_eq_nil_of_le hq] at h
 have e:skipL cm [] = (0,true):=by cases cm <;> rfl
 rw [e] at h
 exact ⟨h.1.symm,h.2.symm⟩
theorem skip_bad {l:List Int} {ok:Bool} {q t:Nat} {c:Int} (h:SkipTo l true q t ok) (hq:q < l.length) (hc:rd l q = c) (h0:cls c = 0):t = q ∧ ok = false:=by
 unfold SkipTo at h
 rw [drop_rd l q hq,hc,skipL,if_pos h0] at h
 exact ⟨h.1.symm,h.2.symm⟩
theorem skip_com {l:List Int} {ok:Bool} {q t:Nat} {c:Int} (h:SkipTo l true q t ok) (hq:q < l.length) (hc:rd l q = c) (h0:cls c ≠ 0):SkipTo l (c != 10) (q + 1) t ok:=by
 unfold SkipTo at h ⊢
 rw [drop_rd l q hq,hc,skipL,if_neg h0] at h
 exact ⟨by rw [← h.1];omega,h.2⟩
theorem skip_blank {l:List Int} {ok:Bool} {q t:Nat} {c:Int} (h:SkipTo l false q t ok) (hq:q < l.length) (hc:rd l q = c) (h0:cls c = 1):SkipTo l false (q + 1) t ok:=by
 unfold SkipTo at h ⊢
 rw [drop_rd l q hq,hc,skipL,if_pos h0] at h
 exact ⟨by rw [← h.1];omega,h.2⟩
theorem rd_drop0 (l:List Int) (q:Nat):rd (l.drop q) 0 = rd l q:=by
 unfold rd;simp [List.getD_eq_getElem?_getD,List.getElem?_drop]
theorem skip_open {l:List Int} {ok:Bool} {q t:Nat} {c:Int} (h:SkipTo l false q t ok) (hq:q + 1 < l.length) (hc:rd l q = c) (h0:cls c ≠ 1) (h1:c = 47) (h2:rd l (q + 1:Nat) = 47):SkipTo l true (q + 1) t ok:=by
 unfold SkipTo at h ⊢
 have hne:l.drop (q + 1) ≠ []:=by simp;omega
 rw [drop_rd l q (by omega),hc,skipL,if_neg h0,if_pos ⟨h1,hne,by rw [rd_drop0];exact h2⟩] at h
 exact ⟨by rw [← h.1];omega,h.2⟩
theorem skip_stop {l:List Int} {ok:Bool} {q t:Nat} {c:Int} (h:SkipTo l false q t ok) (hq:q < l.length) (hc:rd l q = c) (h0:cls c ≠ 1) (h1:¬ (c = 47 ∧ q + 1 < l.length ∧ rd l (q + 1:Nat) = 47)):t = q ∧ ok = true:=by
 unfold SkipTo at h
 rw [drop_rd l q hq,hc,skipL,if_neg h0,if_neg (by
  rintro ⟨a,b,d⟩
  refine h1 ⟨a,?_,by rw [rd_drop0] at d;exact d⟩
  simp at b;omega)] at h
 exact ⟨h.1.symm,h.2.symm⟩
theorem skipL_le (cm:Bool) (l:List Int):(skipL cm l).1 ≤ l.length:=by
 induction l generalizing cm with
 | nil=>cases cm <;> simp [skipL]
 | cons c r ih=>
   cases cm
   ·simp only [skipL]
    split
    ·have:=ih false;simp;omega
    ·split
     ·have:=ih true;simp;omega
     ·simp
   ·simp only [skipL]
    split
    ·simp
    ·have:=ih (c != 10);simp;omega
theorem next_cell {A A2:Option Addr} {n c q:Nat} {l:List Int} {dv:Int} {wr:World} (h:∀ (w:World) (k:IntKind) (xs:List Int),n ≤ c → ReadsInt w k A n xs → ReadsInt w k A2 (n - q) (xs.drop q))
 (hnc:n ≤ c) (hr:ReadsInt wr .u8 A n l) (hd:rd l (q + 1:Nat) = dv) (hq:q + 1 < n):∃ ad2,A2 = some ad2 ∧ wr.cell? ⟨ad2.block,ad2.off + 1,none⟩ = some (.int .u8 dv):=by
 obtain ⟨ad2,h1,h2⟩:=(h wr .u8 l hnc hr).2.2 (by omega)
 refine ⟨ad2,h1,?_⟩
 have e:(⟨ad2.block,ad2.off + 1,none⟩:Addr) = ad2.add 1:=by unfold Addr.add;simp
 rw [e,h2 1 (by omega),← hd]
 simp [rd,List.getD_eq_getElem?_getD,List.getElem?_drop]
set_option maxHeartbeats 2000000 in
theorem skip_any (B:Nat) (A:Option Addr) (n c p t:Nat) (ok:Bool) (l:List Int) (w:World) (hs:RS w B A n c p) (hp:p ≤ n) (hnc:n ≤ c) (hr:ReadsInt w .u8 A n l) (hf:Far A B n) (hb:byteRange l) (hsk:SkipTo l false p t ok) :
 Calls Try.prog 82 #[.pointer (some ⟨B,0,none⟩)] w fun e w'=>e = .returned (.bool ok) ∧ RS w' B A n c t ∧ w.grownBy w' (some B):=by
 have hn:=hr.2.1
 have HR:=Lib.hid hr
 have HS:=Lib.hid hs
 have HSK:=Lib.hid hsk
 have HB:=Lib.hid hb
 have HF:=Lib.hid hf
 have hlen:=Lib.hid hr.1
 clear hr hs hsk hb hf
 go_enter Try.func82,Try.ntmps82
 go_wp2
 go_step3
 go_wp2
 go_step3
 go_wp2
 go_loopg [3] (n - p) (fun g cm wr=>∃ (b:Bool) (q:Nat),cm = .bool b ∧ q ≤ n ∧ g + q = n ∧ Hid (RS wr B A n c q) ∧ Hid (w.grownBy wr (some B)) ∧ Hid (SkipTo l b q t ok))
 case atStart=>exact ⟨false,p,rfl,hp,by omega,HS,Lib.hid ⟨rfl,rfl,rfl,Nat.le_refl _,fun _ _ _=>rfl⟩,HSK⟩
 case round=>
  obtain ⟨b,q,rfl,hq,hg,HS1,HG1,HSK1⟩:=hrel
  have c0:=HS1.out.c0
  have c1:=HS1.out.c1
  have f1:=HS1.out.f1
  have HR1:=Lib.hid (reads_grown HR.out HG1.out HF.out)
  by_cases hlt:q < n
  ·obtain ⟨ad,hA,hcell⟩:=HR1.out.at_ (q:Int) (by omega) (by omega)
   obtain rfl:=hA
   rw [Int.toNat_natCast] at hcell
   have hbk:=HB.out q
   generalize hcv:rd l q = cv at *
   have HCV:=Lib.hid hcv
   clear hcv
   cases b
   ·by_cases h1:cls cv = 1
    ·have HN:=Lib.hid (skip_blank HSK1.out (by rw [hlen.out];exact hlt) HCV.out h1)
     clear HSK1
     go_wp2
     go_quiet (fail)
     go_wp2
     go_quiet (fail)
     go_wp2_with (go_at_call 88;refine (class_any _ hbk.1 hbk.2 _).mono ?_;rintro e w' ⟨rfl,rfl⟩)
     go_roundg (gk - 1)
     case measure=>omega
     case rel=>exact ⟨false,q + 1,by simp,by omega,by omega,Lib.hid ((HS1.out.drewN _).set (q + 1)),Lib.hid ((HG1.out.trans (grown_drewN _ _ _)).trans (grown_set _ _ _ _)),HN⟩
    ·by_cases h2:cv = 47
     ·subst h2
      by_cases h3:q + 1 < n
      ·generalize hdv:rd l (q + 1:Nat) = dv at *
       have HDV:=Lib.hid hdv
       clear hdv
       by_cases h4:dv = 47
       ·subst h4
        have HN:=Lib.hid (skip_open HSK1.out (by rw [hlen.out];exact h3) HCV.out h1 rfl HDV.out)
        clear HSK1
        go_wp2
        go_quiet (fail)
        go_wp2
        go_quiet (fail)
        go_wp2_with (first | (go_at_call 88;refine (class_any _ hbk.1 hbk.2 _).mono ?_;rintro e w' ⟨rfl,rfl⟩) | (go_at_call 89;refine (rest_any B (some ad) n c q _ (by exact c0) (by exact c1) hq).mono ?_;rintro e w' ⟨A2,rfl,HRD2,nq2,rfl⟩;obtain ⟨ad2,hA2,hcell2⟩:=next_cell HRD2 hnc HR1.out HDV.out (by omega);obtain rfl:=hA2;clear HRD2))
        go_roundg (gk - 1)
        case measure=>omega
        case rel=>exact ⟨true,q + 1,rfl,by omega,by omega,Lib.hid ((HS1.out.drewN _).set (q + 1)),Lib.hid ((HG1.out.trans (grown_drewN _ _ _)).trans (grown_set _ _ _ _)),HN⟩
       ·obtain ⟨ht,ho⟩:=skip_stop HSK1.out (by rw [hlen.out];exact hlt) HCV.out h1 (fun h=>h4 (HDV.out.symm.trans h.2.2))
        go_wp2
        go_quiet (fail)
        go_wp2
        go_quiet (fail)
        go_wp2_with (first | (go_at_call 88;refine (class_any _ hbk.1 hbk.2 _).mono ?_;rintro e w' ⟨rfl,rfl⟩) | (go_at_call 89;refine (rest_any B (some ad) n c q _ (by exact c0) (by exact c1) hq).mono ?_;rintro e w' ⟨A2,rfl,HRD2,nq2,rfl⟩;obtain ⟨ad2,hA2,hcell2⟩:=next_cell HRD2 hnc HR1.out HDV.out (by omega);obtain rfl:=hA2;clear HRD2))
        try rw [Exit.noGoto_ret]
        go_ret
        exact ⟨by rw [ho];rfl,by rw [ht];exact HS1.out.drewN _,HG1.out.trans (grown_drewN _ _ _)⟩
      ·obtain ⟨ht,ho⟩:=skip_stop HSK1.out (by rw [hlen.out];exact hlt) HCV.out h1 (fun h=>h3 (by have:=hlen.out;omega))
       go_wp2
       go_quiet (fail)
       go_wp2
       go_quiet (fail)
       go_wp2_with (first | (go_at_call 88;refine (class_any _ hbk.1 hbk.2 _).mono ?_;rintro e w' ⟨rfl,rfl⟩) | (go_at_call 89;refine (rest_any B (some ad) n c q _ (by exact c0) (by exact c1) hq).mono ?_;rintro e w' ⟨A2,rfl,HRD2,nq2,rfl⟩;clear HRD2))
       try rw [Exit.noGoto_ret]
       go_ret
       exact ⟨by rw [ho];rfl,by rw [ht];exact HS1.out.drewN _,HG1.out.trans (grown_drewN _ _ _)⟩
     ·obtain ⟨ht,ho⟩:=skip_stop HSK1.out (by rw [hlen.out];exact hlt) HCV.out h1 (fun h=>h2 h.1)
      go_wp2
      go_quiet (fail)
      go_wp2
      go_quiet (fail)
      go_wp2_with (go_at_call 88;refine (class_any _ hbk.1 hbk.2 _).mono ?_;rintro e w' ⟨rfl,rfl⟩)
      try rw [Exit.noGoto_ret]
      go_ret
      exact ⟨by rw [ho];rfl,by rw [ht];exact HS1.out.drewN _,HG1.out.trans (grown_drewN _ _ _)⟩
   ·by_cases h1:cls cv = 0
    ·obtain ⟨ht,ho⟩:=skip_bad HSK1.out (by rw [hlen.out];exact hlt) HCV.out h1
     go_wp2
     go_quiet (fail)
     go_wp2
     go_quiet (fail)
     go_wp2_with (go_at_call 88;refine (class_any _ hbk.1 hbk.2 _).mono ?_;rintro e w' ⟨rfl,rfl⟩)
     try rw [Exit.noGoto_ret]
     go_ret
     exact ⟨by rw [ho];rfl,by rw [ht];exact HS1.out.drewN _,HG1.out.trans (grown_drewN _ _ _)⟩
    ·have HN:=Lib.hid (skip_com HSK1.out (by rw [hlen.out];exact hlt) HCV.out h1)
     clear HSK1
     go_wp2
     go_quiet (fail)
     go_wp2
     go_quiet (fail)
     go_wp2_with (go_at_call 88;refine (class_any _ hbk.1 hbk.2 _).mono ?_;rintro e w' ⟨rfl,rfl⟩)
     go_roundg (gk - 1)
     case measure=>omega
     case rel=>exact ⟨_,q + 1,rfl,by omega,by omega,Lib.hid ((HS1.out.drewN _).set (q + 1)),Lib.hid ((HG1.out.trans (grown_drewN _ _ _)).trans (grown_set _ _ _ _)),HN⟩
  ·obtain ⟨ht,ho⟩:=skip_end HSK1.out (by rw [hlen.out];omega)
   go_wp2
   go_quiet (fail)
   go_wp2
   try rw [Exit.noGoto_ret]
   go_ret
   exact ⟨by rw [ho];rfl,by rw [ht];exact HS1.out.drewN _,HG1.out.trans (grown_drewN _ _ _)⟩
end Go.Proofs.Ytgbeliajhccndaa.Lex
end
section
set_option linter.unusedVariables false
set_option linter.unusedSimpArgs false
namespace Go.Proofs.Ytgbeliajhccndaa.Lex
open Go.RowKit Go.Proofs.YtgbeliajhccndaaW.PrintWords Go.Proofs.YtgbeliajhccndaaW.PrintLast Go.Proofs.YtgbeliajhccndaaW.PrintMore
def twoL:List (List UInt8 × Int):=[([61,61],49),([33,61],50),([60,61],52),([62,61],54),([38,94],63),([60,60],64),([62,62],65),([38,38],66),([124,124],67)]
def twoFrom (s:List UInt8):List (List UInt8 × Int) → Int
 | []=>0
 | (x,k) :: r=>if s = x then k else twoFrom s r
def twoK (s:ByteArray):Int:=twoFrom s.data.toList twoL
set_option maxHeartbeats 1000000 in
theorem two_any (s:ByteArray) (w:World) :
 Calls Try.prog 95 #[.string s] w fun e w'=>e = .returned (.int .i64 (twoK s)) ∧ w = w':=by
 go_enter Try.func95,Try.ntmps95
 go_wp2
 all_goals
  go_ret
  refine ⟨ret_int ?_,rfl⟩
  simp only [beq_iff_eq,beq_eq_false_iff_ne,ne_eq,ByteArray.toList_eq] at *
  simp only [twoK,twoL,twoFrom]
  simp only [*,if_true,if_false,reduceCtorEq,List.cons.injEq,not_false_eq_true,not_true_eq_false]
  try rfl
theorem run_index_agg {P:Program} {w:World} (t e:TypeId) (n:Nat) (cs:Array Value) (k:IntKind) (i:Nat) (v:Value) {d:TypeDesc} (h:P.underlying t = some (.array n e)) (he:P.underlying e = some d) (hd:(match d with | .struct _ | .array _ _=>true | _=>false) = false)
 (hi:(P.info? e).map (·.size) = some 1) (hlt:i < n) (hv:cs[i]? = some v) :
 (Instr.index t (.agg cs) (.int k (i:Int))).run P w = .ok v w:=by
 obtain ⟨i0,hi0,hs0⟩:=Option.map_eq_some_iff.1 hi
 have h1:(0:Int) ≤ (i:Int) ∧ (i:Int) < (n:Int):=by omega
 have h3:(0:Int) ≤ (i:Int):=by omega
 have hA:(isAgg e).run P w = .ok false w:=by
  simp [isAgg,run_underlying he,go_sem]
  cases d <;> simp_all
 simp [Instr.index,run_underlying h,asIntOf,hlt,h3,part,sizeOf,typeInfo,hi0,hs0,hA,hv,go_sem]
end Go.Proofs.Ytgbeliajhccndaa.Lex
end
section
set_option linter.unusedVariables false
set_option linter.unusedSimpArgs false
namespace Go.Proofs.Ytgbeliajhccndaa.Lex
open Go.RowKit Go.Proofs.YtgbeliajhccndaaW.PrintWords Go.Proofs.YtgbeliajhccndaaW.PrintLast Go.Proofs.YtgbeliajhccndaaW.PrintMore
def wordsL:List ByteArray:=[⟨#[102,117,110,99]⟩,⟨#[118,97,114]⟩,⟨#[105,102]⟩,⟨#[101,108,115,101]⟩,⟨#[102,111,114]⟩,⟨#[114,101,116,117,114,110]⟩,⟨#[98,114,101,97,107]⟩,⟨#[99,111,110,116,105,110,117,101]⟩,⟨#[112,114,105,110,116]⟩,⟨#[112,97,110,105,99]⟩,⟨#[105,110,112,117,116]⟩,⟨#[108,101,110]⟩,⟨#[109,97,107,101]⟩,⟨#[105,110,116]⟩,⟨#[98,111,111,108]⟩,⟨#[116,114,117,101]⟩,⟨#[102,97,108,115,101]⟩,⟨#[110,105,108]⟩]
def wd (k:Nat):ByteArray:=wordsL.getD k ⟨#[]⟩
def wordFrom (s:ByteArray):List ByteArray → Nat → Int
 | [],_=>1
 | x :: r,k=>if s.data.toList = x.data.toList then 10 + k else wordFrom s r (k + 1)
def wordK (s:ByteArray):Int:=wordFrom s wordsL 0
theorem word_index (k:Nat) (hk:k < 18):∀ w:World,(Instr.index 129 (.agg (wordsL.map Value.string).toArray) (.int .i64 (k:Int))).run Try.prog w = .ok (.string (wd k)) w:=by
 intro w
 refine run_index_agg 129 9 18 _ .i64 k _ Try.underlying129 Try.underlying9 rfl (by kernel_rfl) hk ?_
 have hl:k < wordsL.length:=by simpa [wordsL] using hk
 simp [wd,List.getD_eq_getElem?_getD,List.getElem?_eq_getElem hl]
theorem word_miss {s:ByteArray} {k:Nat} (hk:k < 18) (h:wordK s = wordFrom s (wordsL.drop k) k) (hne:(s.toList == (wd k).toList) = false):wordK s = wordFrom s (wordsL.drop (k + 1)) (k + 1):=by
 have hd:wordsL.drop k = wd k :: wordsL.drop (k + 1):=by
  rw [List.drop_eq_getElem_cons (by simpa [wordsL] using hk)]
  simp [wd,List.getD_eq_getElem?_getD,List.getElem?_eq_getElem (show k < wordsL.length by simpa [wordsL] using hk)]
 rw [h,hd,wordFrom,if_neg (by simpa [ByteArray.toList_eq] using hne)]
theorem word_hit {s:ByteArray} {k:Nat} (hk:k < 18) (h:wordK s = wordFrom s (wordsL.drop k) k) (he:(s.toList == (wd k).toList) = true):10 + (k:Int) = wordK s:=by
 have hd:wordsL.drop k = wd k :: wordsL.drop (k + 1):=by
  rw [List.drop_eq_getElem_cons (by simpa [wordsL] using hk)]
  simp [wd,List.getD_eq_getElem?_getD,List.getElem?_eq_getElem (show k < wordsL.length by simpa [wordsL] using hk)]
 rw [h,hd,wordFrom,if_pos (by simpa [ByteArray.toList_eq] using he)]
def wordsV:Array Value:=(wordsL.map Value.string).toArray
theorem wordsV_size:wordsV.size = 18:=rfl
theorem setRow_alloc (w:World) (old V:Array Value) (t:TypeId) (fr:Nat × Nat):(w.alloc (.cells old t fr)).setRow w.heap.size V = w.alloc (.cells V t fr):=by
 unfold World.setRow World.alloc
 congr 1
 apply Array.ext
 ·simp
 ·intro i h1 h2
  simp at h1
  rw [Array.getElem_modify]
  split
  ·rename_i e
   subst e
   simp
  ·rename_i e
   rw [Array.getElem_push,Array.getElem_push]
   split
   ·rfl
   ·exact absurd (by omega) e
theorem store_alloc {P:Program} (w:World) (old V:Array Value) (t:TypeId) (hs:old.size = V.size) (h1:∀ v ∈ V.toList,v.oneCell' = true) :
 (storeCells ⟨w.heap.size,0,none⟩ V.toList).run P (w.alloc (.cells old t (0,0))) = .ok () (w.alloc (.cells V t (0,0))):=by
 have h:=run_storeCells_from (P:=P) w.heap.size t V.toList 0 old (w.alloc (.cells old t (0,0))) (heap_alloc_new w _) (by simp;omega) h1
 rw [h]
 simp [setRow_alloc]
theorem wpList_build_lit {P:Program} {ops:Array Oper} {rest:List Oper} {o:Oper} {a:Act} {w:World} {Q:Exit → Act → World → Prop} (hg:o.guard = none) (t:TypeId) (parts:Array (Nat × Operand)) (ho:o.op = .build t parts)
 (V:Array Value) (hV:P.built t (parts.map fun (i,x)=>(i,a.eval x)).toList = some V) (h:wpList P ops Q rest (a.put o.dst (.agg V)) w):wpList P ops Q (o :: rest) a w:=by
 refine wpList_build hg t parts ho (by rw [hV];rfl) ?_
 rw [hV]
 exact h
theorem wordsV_one:∀ v ∈ wordsV.toList,v.oneCell' = true:=by
 intro v hv
 simp [wordsV] at hv
 obtain ⟨x,_,rfl⟩:=hv
 rfl
theorem word_at (k:Nat) (hk:k < 18):∀ w:World,(Instr.index 129 (.agg wordsV) (.int .i64 (k:Int))).run Try.prog w = .ok (.string (wd k)) w:=word_index k hk
attribute [irreducible] wordsV
set_option maxHeartbeats 1000000 in
theorem word_any (s:ByteArray) (w:World) :
 Calls Try.prog 94 #[.string s] w fun e w'=>e = .returned (.int .i64 (wordK s)) ∧ Below w.heap.size w w':=by
 have hst:=store_alloc (P:=Try.prog) w #[.string ⟨#[]⟩,.string ⟨#[]⟩,.string ⟨#[]⟩,.string ⟨#[]⟩,.string ⟨#[]⟩,.string ⟨#[]⟩,.string ⟨#[]⟩,.string ⟨#[]⟩,.string ⟨#[]⟩,.string ⟨#[]⟩,.string ⟨#[]⟩,.string ⟨#[]⟩,.string ⟨#[]⟩,.string ⟨#[]⟩,.string ⟨#[]⟩,.string ⟨#[]⟩,.string ⟨#[]⟩,.string ⟨#[]⟩] wordsV 129 (by rw [wordsV_size];rfl) wordsV_one
 have hsz:=wordsV_size
 go_enter Try.func94,Try.ntmps94
 go_wp2_with (first | (refine wpList_build_lit rfl 129 _ rfl wordsV (by unfold wordsV;kernel_rfl) ?_) | (refine wpList_load_row rfl 129 (.tmp 3) rfl w.heap.size rfl 129 wordsV (0,0) _ (heap_alloc_new w _) Try.underlying129 rfl (by rw [wordsV_size];kernel_rfl) ?_))
 clear hst
 go_loop [8] (fun i=>∃ k:Nat,k ≤ 18 ∧ i = .int .i64 k ∧ Hid (wordK s = wordFrom s (wordsL.drop k) k)) (fun i=>18 - (intOf i).toNat)
 case atStart=>exact ⟨0,by omega,rfl,Lib.hid (by rw [List.drop_zero];rfl)⟩
 case round=>
  obtain ⟨k,hk,rfl,HK⟩:=hrel
  by_cases hlt:k < 18
  ·have hix:=word_at k hlt
   cases hq:(s.toList == (wd k).toList)
   ·have HN:=Lib.hid (word_miss hlt HK.out hq)
    go_wp2
    go_round
    case rel=>exact ⟨k + 1,by omega,by go_num,HN⟩
    case measure=>simp [intOf];omega
   ·have HN:=Lib.hid (word_hit hlt HK.out hq)
    go_wp2
    go_ret
    exact ⟨ret_int HN.out,(Below.refl _ _).alloc (Nat.le_refl _) _⟩
  ·obtain rfl:k = 18:=by omega
   have HN:=Lib.hid HK.out
   go_wp2
   go_ret
   exact ⟨ret_int (by rw [HN.out];rfl),(Below.refl _ _).alloc (Nat.le_refl _) _⟩
def signsL:List UInt8:=[40,41,123,125,91,93,44,59,61,33,60,62,43,45,42,47,37,38,124,94]
def kindsL:List Int:=[40,41,42,43,44,45,46,47,48,68,51,53,55,56,57,58,59,60,61,62]
def sg (k:Nat):Int:=((signsL.getD k 0).toNat:Int)
def kd (k:Nat):Int:=kindsL.getD k 0
def oneFrom (c:Int):List (UInt8 × Int) → Int
 | []=>0
 | (x,k) :: r=>if (x.toNat:Int) = c then k else oneFrom c r
def oneK (c:Int):Int:=oneFrom c (signsL.zip kindsL)
theorem one_sign (k:Nat) (hk:k < 20):∀ w:World,(Instr.index 9 (.string ⟨#[40,41,123,125,91,93,44,59,61,33,60,62,43,45,42,47,37,38,124,94]⟩) (.int .i64 (k:Int))).run Try.prog w = .ok (.int .u8 (sg k)) w:=by
 intro w
 have e:(⟨#[40,41,123,125,91,93,44,59,61,33,60,62,43,45,42,47,37,38,124,94]⟩:ByteArray) = ⟨signsL.toArray⟩:=rfl
 have hl:k < signsL.length:=by simpa [signsL] using hk
 have h1:(⟨signsL.toArray⟩:ByteArray)[k]? = some (signsL.getD k 0):=by
  have hl':k < (⟨signsL.toArray⟩:ByteArray).size:=hl
  rw [getElem?_pos _ k hl']
  simp [List.getD_eq_getElem?_getD,List.getElem?_eq_getElem hl]
  rfl
 rw [e]
 have h0:(0:Int) ≤ (k:Int):=by omega
 simp [Instr.index,run_underlying Try.underlying9,asIntOf,h0,h1,sg,go_sem]
def kindsV:Array Value:=(kindsL.map (Value.int .i64)).toArray
theorem kindsV_size:kindsV.size = 20:=rfl
theorem kindsV_one:∀ v ∈ kindsV.toList,v.oneCell' = true:=by
 intro v hv
 simp [kindsV] at hv
 obtain ⟨x,_,rfl⟩:=hv
 rfl
theorem kind_at (k:Nat) (hk:k < 20):∀ w:World,(Instr.index 130 (.agg kindsV) (.int .i64 (k:Int))).run Try.prog w = .ok (.int .i64 (kd k)) w:=by
 intro w
 refine run_index_agg 130 3 20 _ .i64 k _ Try.underlying130 Try.underlying3 rfl (by kernel_rfl) hk ?_
 have hl:k < kindsL.length:=by simpa [kindsL] using hk
 simp [kindsV,kd,List.getD_eq_getElem?_getD,List.getElem?_eq_getElem hl]
attribute [irreducible] kindsV
theorem one_drop {k:Nat} (hk:k < 20):(signsL.zip kindsL).drop k = (signsL.getD k 0,kd k) :: (signsL.zip kindsL).drop (k + 1):=by
 have hl:k < (signsL.zip kindsL).length:=by simpa [signsL,kindsL] using hk
 have h1:k < signsL.length:=by simpa [signsL] using hk
 have h2:k < kindsL.length:=by simpa [kindsL] using hk
 rw [List.drop_eq_getElem_cons hl,List.getElem_zip]
 simp [kd,List.getD_eq_getElem?_getD,List.getElem?_eq_getElem h1,List.getElem?_eq_getElem h2]
theorem one_miss {c:Int} {k:Nat} (hk:k < 20) (h:oneK c = oneFrom c ((signsL.zip kindsL).drop k)) (hne:(sg k == c) = false):oneK c = oneFrom c ((signsL.zip kindsL).drop (k + 1)):=by
 rw [h,one_drop hk,oneFrom,if_neg (by simpa [sg] using hne)]
theorem one_hit {c:Int} {k:Nat} (hk:k < 20) (h:oneK c = oneFrom c ((signsL.zip kindsL).drop k)) (he:(sg k == c) = true):kd k = oneK c:=by
 rw [h,one_drop hk,oneFrom,if_pos (by simpa [sg] using he)]
set_option maxHeartbeats 1000000 in
theorem one_any (c:Int) (w:World) :
 Calls Try.prog 96 #[.int .u8 c] w fun e w'=>e = .returned (.int .i64 (oneK c)) ∧ Below w.heap.size w w':=by
 have hst:=store_alloc (P:=Try.prog) w #[.int .i64 0,.int .i64 0,.int .i64 0,.int .i64 0,.int .i64 0,.int .i64 0,.int .i64 0,.int .i64 0,.int .i64 0,.int .i64 0,.int .i64 0,.int .i64 0,.int .i64 0,.int .i64 0,.int .i64 0,.int .i64 0,.int .i64 0,.int .i64 0,.int .i64 0,.int .i64 0] kindsV 130 (by rw [kindsV_size];rfl) kindsV_one
 have hsz:=kindsV_size
 go_enter Try.func96,Try.ntmps96
 go_wp2_with (first | (refine wpList_build_lit rfl 130 _ rfl kindsV (by unfold kindsV;kernel_rfl) ?_) | (refine wpList_load_row rfl 130 (.tmp 3) rfl w.heap.size rfl 130 kindsV (0,0) _ (heap_alloc_new w _) Try.underlying130 rfl (by rw [kindsV_size];kernel_rfl) ?_))
 clear hst
 go_loop [8] (fun i=>∃ k:Nat,k ≤ 20 ∧ i = .int .i64 k ∧ Hid (oneK c = oneFrom c ((signsL.zip kindsL).drop k))) (fun i=>20 - (intOf i).toNat)
 case atStart=>exact ⟨0,by omega,rfl,Lib.hid (by rw [List.drop_zero];rfl)⟩
 case round=>
  obtain ⟨k,hk,rfl,HK⟩:=hrel
  by_cases hlt:k < 20
  ·have hix:=kind_at k hlt
   have hsx:=one_sign k hlt
   cases hq:(sg k == c)
   ·have HN:=Lib.hid (one_miss hlt HK.out hq)
    go_wp2
    go_round
    case rel=>exact ⟨k + 1,by omega,by go_num,HN⟩
    case measure=>simp [intOf];omega
   ·have HN:=Lib.hid (one_hit hlt HK.out hq)
    go_wp2
    go_ret
    exact ⟨ret_int HN.out,(Below.refl _ _).alloc (Nat.le_refl _) _⟩
  ·obtain rfl:k = 20:=by omega
   have HN:=Lib.hid HK.out
   go_wp2
   go_ret
   exact ⟨ret_int (by rw [HN.out];rfl),(Below.refl _ _).alloc (Nat.le_refl _) _⟩
end Go.Proofs.Ytgbeliajhccndaa.Lex
end
section
set_option linter.unusedVariables false
set_option linter.unusedSimpArgs false
namespace Go.Proofs.Ytgbeliajhccndaa.Lex
open Go.RowKit Go.Proofs.YtgbeliajhccndaaW.PrintWords Go.Proofs.YtgbeliajhccndaaW.PrintLast Go.Proofs.YtgbeliajhccndaaW.PrintMore
structure Tok where
 kind:Int
 at_:Int
 value:Int
 name:ByteArray
def Tok.cells (x:Tok):Array Value:=#[.int .i64 x.kind,.int .i64 x.at_,.int .i64 x.value,.string x.name]
def Tok.nil:Tok:=⟨0,0,0,⟨#[]⟩⟩
theorem RS.alloc {w:World} {B:Nat} {A:Option Addr} {n c p:Nat} (h:RS w B A n c p) (o:Obj):RS (w.alloc o) B A n c p:=h.grown (World.grownBy_alloc w o none) (by simp)
theorem reads_alloc {w:World} {A:Option Addr} {n:Nat} {k:IntKind} {xs:List Int} (h:ReadsInt w k A n xs) (o:Obj):ReadsInt (w.alloc o) k A n xs:=
 h.below ((Below.refl _ _).alloc (Nat.le_refl _) o)
theorem length_tw {α:Type} (f:α → Bool) (l:List α):(l.takeWhile f).length ≤ l.length:=(List.takeWhile_prefix f).length_le
theorem strL_le (b:Bool) (l:List Int):strL b l ≤ l.length:=length_tw _ _
theorem reads_heap {w w':World} {A:Option Addr} {n:Nat} {k:IntKind} {xs:List Int} (h:ReadsInt w k A n xs) (he:w'.heap = w.heap):ReadsInt w' k A n xs:=by
 refine ⟨h.1,h.2.1,fun hn=>?_⟩
 obtain ⟨ad,e,hc⟩:=h.2.2 hn
 refine ⟨ad,e,fun j hj=>?_⟩
 have:=hc j hj
 unfold World.cell? at this ⊢
 rw [he]
 exact this
theorem cut_string {A A2:Option Addr} {n c p m:Nat} {l:List Int} {w:World} (h:∀ (w:World) (k:IntKind) (xs:List Int),n ≤ c → ReadsInt w k A n xs → ReadsInt w k A2 (n - p) (xs.drop p)) (hnc:n ≤ c) (hr:ReadsInt w .u8 A n l) (hm:m ≤ n - p) :
 (∀ W:World,(Instr.slice 52 (.slice A2 (n - p) (c - p)) none (some (.int .i64 (m:Int))) none).run Try.prog W = .ok (.slice A2 m (c - p)) W) ∧
 (∀ k,(convert 52 9 (.slice A2 m (c - p))).run Try.prog (w.drewN k) = .ok (.string (strOfNums ((l.drop p).take m))) (w.drewN k)) ∧
 (∀ o k,(convert 52 9 (.slice A2 m (c - p))).run Try.prog ((w.drewN k).alloc o) = .ok (.string (strOfNums ((l.drop p).take m))) ((w.drewN k).alloc o)) ∧
 (∀ o k j,(convert 52 9 (.slice A2 m (c - p))).run Try.prog (((w.drewN k).alloc o).drewN j) = .ok (.string (strOfNums ((l.drop p).take m))) (((w.drewN k).alloc o).drewN j)):=by
 obtain ⟨i5,hi5,hs5⟩:=info5s
 have h2:=h w .u8 l hnc hr
 have hlen:(l.drop p).length = n - p:=h2.1
 have htl:((l.drop p).take m).length = m:=by rw [List.length_take];omega
 refine ⟨fun W=>?_,fun k=>?_,fun o k=>?_,fun o k j=>?_⟩
 ·have h3:=(print_take_int (P:=Try.prog) (k:=.u8) 52 5 Try.underlying52 hi5 hs5 A2 (c - p) (l.drop p) (m:Int) (by omega) (by omega) (by omega)).1 W
  rw [Int.toNat_natCast,htl,hlen] at h3
  exact h3
 ·exact string_of_reads Try.underlying52 Try.underlying5 Try.underlying9 ((reads_heap h2 rfl).take_ m hm)
 ·exact string_of_reads Try.underlying52 Try.underlying5 Try.underlying9 ((reads_heap (w':=(w.drewN k).alloc o) (reads_alloc h2 o) rfl).take_ m hm)
 ·exact string_of_reads Try.underlying52 Try.underlying5 Try.underlying9 ((reads_heap (w':=((w.drewN k).alloc o).drewN j) (reads_alloc h2 o) rfl).take_ m hm)
theorem bcell {W w1:World} (hb:Below W.heap.size W w1):(∀ b o,b < W.heap.size → w1.cell? ⟨b,o,none⟩ = W.cell? ⟨b,o,none⟩) ∧ (∀ b o,b < W.heap.size → w1.frozen? ⟨b,o,none⟩ = W.frozen? ⟨b,o,none⟩):=
 ⟨fun b o h=>hb.cell (p:=⟨b,o,none⟩) h,fun b o h=>hb.frozen (p:=⟨b,o,none⟩) h⟩
theorem alloc_drewN (V:World) (k:Nat) (o:Obj):(V.drewN k).alloc o = (V.alloc o).drewN k:=rfl
theorem setCell_drewN (V:World) (k:Nat) (a:Addr) (v:Value):(V.drewN k).setCell a v = (V.setCell a v).drewN k:=rfl
theorem setCell_last (V:World) (g j:Nat) (cs:Array Value) (t:TypeId) (fr:Nat × Nat) (v:Value) (hg:g = V.heap.size) :
 (V.alloc (.cells cs t fr)).setCell ⟨g,j,none⟩ v = V.alloc (.cells (cs.setIfInBounds j v) t fr):=by
 subst hg
 rw [setCell_eq_setRow (V.alloc (.cells cs t fr)) V.heap.size j cs t fr v (heap_alloc_new V _),setRow_alloc]
theorem RS.far {w:World} {B:Nat} {A:Option Addr} {n c p:Nat} (h:RS w B A n c p) {g:Nat} (hne:B ≠ g) (j:Nat) (v:Value):RS (w.setCell ⟨g,j,none⟩ v) B A n c p:=
 (Below.heap_setCell w ⟨g,j,none⟩ v B hne).trans h
theorem RS.below {w w':World} {B:Nat} {A:Option Addr} {n c p:Nat} (h:RS w B A n c p) (hb:Below w.heap.size w w'):RS w' B A n c p:=(hb.block B h.lt).trans h
theorem grown_new {w w1:World} {row:Option Nat} (h:w.grownBy w1 row) {g:Nat} (hg:w.heap.size ≤ g) (j:Nat) (v:Value):w.grownBy (w1.setCell ⟨g,j,none⟩ v) row:=
 ⟨h.os,h.tape,h.output,by have:=h.size;simpa [World.setCell] using this,fun k hk hne=>(Below.heap_setCell w1 ⟨g,j,none⟩ v k (show k ≠ g by omega)).trans (h.block k hk hne)⟩
theorem grown_row {w w1:World} {B:Nat} (h:w.grownBy w1 (some B)) (j:Nat) (v:Value):w.grownBy (w1.setCell ⟨B,j,none⟩ v) (some B):=h.trans (grown_set w1 B j v)
theorem grown_alloc {w w1:World} {row:Option Nat} (h:w.grownBy w1 row) (o:Obj):w.grownBy (w1.alloc o) row:=h.trans (World.grownBy_alloc w1 o row)
theorem grown_draw {w w1:World} {row:Option Nat} (h:w.grownBy w1 row) (k:Nat):w.grownBy (w1.drewN k) row:=h.trans (grown_drewN w1 k row)
theorem grown_below {w w1 w2:World} {row:Option Nat} (h:w.grownBy w1 row) (hb:Below w1.heap.size w1 w2):w.grownBy w2 row:=h.trans (grown_of_below hb row)
theorem grown_refl (w:World) (row:Option Nat):w.grownBy w row:=World.grownBy.refl w row
theorem four_set (V:World) (g:Nat) (x0 x1 x2 x3 a b c d:Value) (t:TypeId) (fr:Nat × Nat) (hg:g = V.heap.size) :
 ((((V.alloc (.cells #[x0,x1,x2,x3] t fr)).setCell ⟨g,0,none⟩ a).setCell ⟨g,1,none⟩ b).setCell ⟨g,2,none⟩ c).setCell ⟨g,3,none⟩ d = V.alloc (.cells #[a,b,c,d] t fr):=by
 rw [setCell_last _ _ _ _ _ _ _ hg,setCell_last _ _ _ _ _ _ _ hg,setCell_last _ _ _ _ _ _ _ hg,setCell_last _ _ _ _ _ _ _ hg]
 rfl
theorem size_alloc' (w:World) (o:Obj):(w.alloc o).heap.size = w.heap.size + 1:=by simp
theorem four_row {W:World} {g:Nat} {z0 z1 z2 z3 a b c d:Value} {t:TypeId} (h:W.heap[g]? = some (.cells #[z0,z1,z2,z3] t (0,0))) :
 ((((W.setCell ⟨g,0,none⟩ a).setCell ⟨g,1,none⟩ b).setCell ⟨g,2,none⟩ c).setCell ⟨g,3,none⟩ d).heap[g]? = some (.cells #[a,b,c,d] t (0,0)):=
 heap_setCell_same _ _ _ _ _ _ (heap_setCell_same _ _ _ _ _ _ (heap_setCell_same _ _ _ _ _ _ (heap_setCell_same _ _ _ _ _ _ h)))
theorem far_row {W:World} {g g' j:Nat} {v:Value} {o:Obj} (h:W.heap[g]? = some o) (hne:g ≠ g'):(W.setCell ⟨g',j,none⟩ v).heap[g]? = some o:=(Below.heap_setCell W ⟨g',j,none⟩ v g hne).trans h
theorem tok_results {fn:Func} {tmps:Array Value} {W:World} {g:Nat} {err:Int} {cs:Array Value} (hr:fn.results = #[.cell 2 92,.tmp 3]) (hp:tmps.getD 2 undef = .pointer (some ⟨g,0,none⟩)) (he:tmps.getD 3 undef = .int .i64 err)
 (hg:W.heap[g]? = some (.cells cs 92 (0,0))) (hc:cs.size = 4):(results fn tmps).run Try.prog W = .ok (.tuple #[.agg cs,.int .i64 err]) W:=by
 have h:=results_list (P:=Try.prog) (tmps:=tmps) (w:=W) (fn:=fn) (rs:=[.cell 2 92,.tmp 3]) (vs:=[.agg cs,tmps.getD 3 undef]) hr (by simp) (.cell g 92 cs (0,0) _ hp hg Try.underlying92 rfl (by rw [hc];kernel_rfl) (.tmp .nil))
 rw [he] at h
 exact h
theorem new_row {w w':World} {o o2:Obj} {k:Nat} (hb:Below (((w.alloc o).alloc o2).drewN k).heap.size (((w.alloc o).alloc o2).drewN k) w'):w'.heap[w.heap.size]? = some o ∧ w'.heap[w.heap.size + 1]? = some o2:=by
 constructor
 ·rw [hb.block w.heap.size (by simp;omega),World.heap_drewN]
  exact heap_alloc2_old w o o2
 ·rw [hb.block (w.heap.size + 1) (by simp),World.heap_drewN]
  exact heap_alloc2_new w o o2
def nameTok (p:Int) (s:ByteArray):Tok:=if wordK s = 1 then ⟨1,p,0,s⟩ else ⟨wordK s,p,0,⟨#[]⟩⟩
set_option maxHeartbeats 2000000 in
theorem name_yes (B:Nat) (A:Option Addr) (n c p m:Nat) (l:List Int) (w:World) (hs:RS w B A n c p) (hp:p ≤ n) (hnc:n ≤ c) (hr:ReadsInt w .u8 A n l) (hf:Far A B n) (hb:byteRange l) (hm:strL true (l.drop p) = m) (h64:m ≤ 64) :
 Calls Try.prog 90 #[.pointer (some ⟨B,0,none⟩)] w fun e w'=>e = .returned (.tuple #[.agg (nameTok p (strOfNums ((l.drop p).take m))).cells,.int .i64 0]) ∧ RS w' B A n c (p + m) ∧ w.grownBy w' (some B):=by
 have hn:=hr.2.1
 have hstr:m ≤ n - p:=by
  have h:=strL_le true (l.drop p)
  rw [List.length_drop,hr.1,hm] at h
  exact h
 have HM:=Lib.hid hm
 have HR:=Lib.hid hr
 have HS:=Lib.hid hs
 have HB:=Lib.hid hb
 have HF:=Lib.hid hf
 have hlen:=Lib.hid hr.1
 have hlt:=hs.lt
 have c0:=hs.c0
 have c1:=hs.c1
 have f1:=hs.f1
 clear hr hs hb hf hm
 go_enter Try.func90,Try.ntmps90
 go_wp2_with (go_at_call 93;refine (stretch_any B true A n c p l _ (by exact (HS.out.alloc _).c0) (by exact (HS.out.alloc _).c1) hp hnc (by exact reads_alloc HR.out _) (by exact HB.out)).mono ?_;rintro e w' ⟨rfl,nq,rfl⟩;rw [HM.out])
 obtain ⟨Z,hz⟩:∃ Z,Z = (Obj.cells #[Value.int IntKind.i64 0,Value.int IntKind.i64 0,Value.int IntKind.i64 0,Value.string ⟨#[]⟩] 92):=⟨_,rfl⟩
 rw [← hz]
 have HZ:=Lib.hid hz
 clear hz
 go_cut [5] (fun t w1=>t = .pointer (some ⟨w.heap.size + 1,0,none⟩) ∧ ∃ k,w1 = ((w.alloc Z).alloc (.cells #[.int .i64 1,.int .i64 (p:Int),.int .i64 0,.string (strOfNums ((l.drop p).take m))] 92)).drewN k)
 case first=>
  go_region_with (go_at_call 89;refine (rest_any B A n c p _ (by first | exact (HS.out.alloc _).c0 | exact (((HS.out.alloc _).drewN _).alloc _).c0) (by first | exact (HS.out.alloc _).c1 | exact (((HS.out.alloc _).drewN _).alloc _).c1) hp).mono ?_;rintro e w' ⟨A2,rfl,HRD2,nq2,rfl⟩;obtain ⟨hsl,hcv,hcw,hcu⟩:=cut_string HRD2 hnc (reads_alloc HR.out Z) hstr;clear HRD2)
  all_goals
   go_wp2_with fail
   go_meet
   refine ⟨rfl,?_⟩
   simp only [alloc_drewN,setCell_drewN,World.drewN_drewN]
   try rw [four_set _ _ _ _ _ _ _ _ _ _ _ _ (size_alloc' w Z).symm]
   exact ⟨_,rfl⟩
 case rest=>
  obtain ⟨rfl,k,rfl⟩:=hcut
  generalize hss:strOfNums ((l.drop p).take m) = s at *
  have HSS:=Lib.hid hss
  clear hss
  have hz:=HZ.out
  subst hz
  by_cases hk:wordK s = 1
  ·have hlt2:B < w.heap.size + 1 + 1:=by omega
   have hne1:B ≠ w.heap.size:=by omega
   have hne2:B ≠ w.heap.size + 1:=by omega
   have hk1:(wordK s == 1) = true:=by simp [hk]
   have hk2:(wordK s != 1) = false:=by simp [hk]
   have HK:=Lib.hid hk
   clear hk
   go_wp2_with (go_at_call 94;refine (word_any s _).mono ?_;rintro e w' ⟨rfl,hb1⟩;obtain ⟨hc1,hf1⟩:=bcell hb1)
   rw [HSS.out]
   obtain ⟨r1,r2⟩:=new_row hb1
   have e:(nameTok p s).cells = #[.int .i64 1,.int .i64 (p:Int),.int .i64 0,.string s]:=by unfold nameTok;rw [if_pos HK.out];rfl
   refine bodyPost_ret (v:=.tuple #[.agg (nameTok p s).cells,.int .i64 0]) (by rw [e];exact tok_results Try.results90 rfl rfl (four_row (far_row r1 (Ne.symm hne1))) rfl) rfl ⟨rfl,?_,?_⟩
   ·exact ((((((((HS.out.alloc _).alloc _).drewN k).below hb1).set (p + m)).far hne1 _ _).far hne1 _ _).far hne1 _ _).far hne1 _ _
   ·exact grown_new (grown_new (grown_new (grown_new (grown_row (grown_below (grown_draw (grown_alloc (grown_alloc (grown_refl w (some B)) _) _) k) hb1) _ _) (Nat.le_refl _) _ _) (Nat.le_refl _) _ _) (Nat.le_refl _) _ _) (Nat.le_refl _) _ _
  ·have hlt2:B < w.heap.size + 1 + 1:=by omega
   have hne1:B ≠ w.heap.size:=by omega
   have hne2:B ≠ w.heap.size + 1:=by omega
   have hk1:(wordK s == 1) = false:=by simp [hk]
   have hk2:(wordK s != 1) = true:=by simp [hk]
   have HK:=Lib.hid hk
   clear hk
   go_wp2_with (go_at_call 94;refine (word_any s _).mono ?_;rintro e w' ⟨rfl,hb1⟩;obtain ⟨hc1,hf1⟩:=bcell hb1)
   rw [HSS.out]
   obtain ⟨r1,r2⟩:=new_row hb1
   have e:(nameTok p s).cells = #[.int .i64 (wordK s),.int .i64 (p:Int),.int .i64 0,.string ⟨#[]⟩]:=by unfold nameTok;rw [if_neg HK.out];rfl
   have hg:=grown_below (grown_draw (grown_alloc (grown_alloc (grown_refl w (some B)) _) _) k) hb1
   have hw:w.heap.size ≤ w.heap.size + 1:=Nat.le_succ _
   have hne3:w.heap.size ≠ w.heap.size + 1:=by omega
   refine bodyPost_ret (v:=.tuple #[.agg (nameTok p s).cells,.int .i64 0]) (by rw [e];exact tok_results Try.results90 rfl rfl (four_row (far_row (far_row (far_row (far_row (far_row r1 hne3) hne3) hne3) hne3) (Ne.symm hne1))) rfl) rfl ⟨rfl,?_,?_⟩
   ·exact ((((((((((((HS.out.alloc _).alloc _).drewN k).below hb1).far hne2 _ _).far hne2 _ _).far hne2 _ _).far hne2 _ _).set (p + m)).far hne1 _ _).far hne1 _ _).far hne1 _ _).far hne1 _ _
   ·exact grown_new (grown_new (grown_new (grown_new (grown_row (grown_new (grown_new (grown_new (grown_new hg hw _ _) hw _ _) hw _ _) hw _ _) _ _) (Nat.le_refl _) _ _) (Nat.le_refl _) _ _) (Nat.le_refl _) _ _) (Nat.le_refl _) _ _
end Go.Proofs.Ytgbeliajhccndaa.Lex
end
