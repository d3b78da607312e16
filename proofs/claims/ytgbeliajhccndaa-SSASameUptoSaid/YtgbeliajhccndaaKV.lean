/- Lemmas of this claim (WA,WB,WC,WD). -/
import Derived.Test.YtgbeliajhccndaaKM
import Derived.Test.YtgbeliajhccndaaKT
import Derived.Test.YtgbeliajhccndaaKU
import Derived.Deep.RegionHeld3
section
set_option linter.unusedVariables false
set_option linter.unusedSimpArgs false
namespace Go.Proofs.Ytgbeliajhccndaa
open Go.RowKit Go.Proofs.YtgbeliajhccndaaW.PrintWords Go.Proofs.YtgbeliajhccndaaW.PrintLast Go.Proofs.YtgbeliajhccndaaW.PrintMore PP
section
variable {w W W':World} {gF gp gt:Nat} {fc:Array Value} {n cp ct:Nat} {s:Tri}
end
end Go.Proofs.Ytgbeliajhccndaa
end
section
set_option linter.unusedVariables false
set_option linter.unusedSimpArgs false
namespace Go.Proofs.Ytgbeliajhccndaa
open Go.RowKit Go.Proofs.YtgbeliajhccndaaW.PrintWords Go.Proofs.YtgbeliajhccndaaW.PrintLast Go.Proofs.YtgbeliajhccndaaW.PrintMore PP
end Go.Proofs.Ytgbeliajhccndaa
end
section
set_option linter.unusedVariables false
set_option linter.unusedSimpArgs false
namespace Go.Proofs.Ytgbeliajhccndaa
open Go.RowKit Go.Proofs.YtgbeliajhccndaaW.PrintWords Go.Proofs.YtgbeliajhccndaaW.PrintLast Go.Proofs.YtgbeliajhccndaaW.PrintMore PP
theorem wrap_nat (i:Nat) (h:i < 4611686018427387904):wrap64 ((i:Int) + 1) = ((i + 1:Nat):Int):=by
 unfold wrap64
 omega
theorem rd_nat (l:List Int) (i:Nat):rd l (i:Int) = l.getD i 0:=rfl
structure MInv (ts:List (List Int)) (out:Int) (n i:Nat) (seen:List Bool) (l:List Int):Prop where
 sl:seen.length = n
 zero:(0:Int) ∈ l
 way:∀ x ∈ l,inB n x = true ∧ Way ts out x
 seen_:∀ j:Nat,j < n → (seen.getD j false = true ↔ (j:Int) ∈ l)
 nd:(l.map Int.toNat).Nodup
 le:i ≤ l.length
 done:∀ j,j < i → ∀ y ∈ ts.getD (l.getD j 0).toNat [],y ≠ out → y ∈ l
theorem MInv.len {ts:List (List Int)} {out:Int} {n i:Nat} {seen:List Bool} {l:List Int} (h:MInv ts out n i seen l):l.length ≤ n:=by
 have:=nodup_le n _ h.nd (fun x hx=>by
  obtain ⟨b,hb,rfl⟩:=List.mem_map.1 hx
  have:=inB_iff (h.way b hb).1
  omega)
 simpa using this
theorem MInv.add {ts:List (List Int)} {out:Int} {n i:Nat} {seen:List Bool} {l:List Int} (h:MInv ts out n i seen l) {v:Int} (hv:inB n v = true) (hw:Way ts out v) (hn:v ∉ l):MInv ts out n i (seen.set v.toNat true) (l ++ [v]):=by
 obtain ⟨v0,v1⟩:=inB_iff hv
 refine ⟨by rw [List.length_set];exact h.sl,by simp [h.zero],fun x hx=>?_,fun j hj=>?_,?_,by have:=h.le;simp;omega,fun j hj y hy hne=>?_⟩
 ·rcases List.mem_append.1 hx with hx | hx
  ·exact h.way x hx
  ·rw [List.mem_singleton.1 hx]
   exact ⟨hv,hw⟩
 ·rw [List.getD_eq_getElem?_getD,List.getElem?_set,List.mem_append,List.mem_singleton]
  by_cases e:v.toNat = j
  ·have e2:(j:Int) = v:=by omega
   rw [if_pos e,if_pos (by have:=h.sl;omega)]
   simp [e2]
  ·have e2:¬ (j:Int) = v:=by omega
   rw [if_neg e,← List.getD_eq_getElem?_getD,h.seen_ j hj]
   simp [e2]
 ·rw [List.map_append]
  refine List.nodup_append.2 ⟨h.nd,by simp,fun a ha b hb=>?_⟩
  obtain ⟨x,hx,rfl⟩:=List.mem_map.1 ha
  simp at hb
  subst hb
  intro e
  have:=(inB_iff (h.way x hx).1).1
  exact hn (by rw [show v = x from by omega];exact hx)
 ·have hjl:j < l.length:=by have:=h.le;omega
  have e:(l ++ [v]).getD j 0 = l.getD j 0:=by rw [List.getD_eq_getElem?_getD,List.getElem?_append_left hjl,← List.getD_eq_getElem?_getD]
  rw [e] at hy
  exact List.mem_append_left _ (h.done j hj y hy hne)
theorem rdOf_nat (l:List Bool) (x:Int):rdOf false l x = l.getD x.toNat false:=rfl
section
variable {f:S38} {to_ out:Int} {b:Bool}
end
end Go.Proofs.Ytgbeliajhccndaa
end
section
set_option linter.unusedVariables false
set_option linter.unusedSimpArgs false
namespace Go.Proofs.Ytgbeliajhccndaa
open Go.RowKit Go.Proofs.YtgbeliajhccndaaW.PrintWords Go.Proofs.YtgbeliajhccndaaW.PrintLast Go.Proofs.YtgbeliajhccndaaW.PrintMore PP
def LenT (n:Nat) (s:Tri):Prop:=s.1.length = n ∧ s.2.1.length = n ∧ s.2.2.length = n
theorem put3_len {n:Nat} {s:Tri} (h:LenT n s) (v b k:Int):LenT n (put3 s v b k):=by
 obtain ⟨h1,h2,h3⟩:=h
 exact ⟨by simp [put3,h1],by simp [put3,h2],by simp [put3,h3]⟩
end Go.Proofs.Ytgbeliajhccndaa
end
