-- Printed by the kit's print.py (turned by patchprint.py, made shorter by squeeze.py, mine). Not trusted: Lean checks it.
import Derived.Test.YtameoapnhmoleaaPV
import Derived.Test.YtameoapnhmoleaaX3
import Derived.Test.YtameoapnhmoleaaPP3
import Derived.Test.YtameoapnhmoleaaPP2
namespace Go.Proofs.Ytameoapnhmoleaa.PP
open Go.RowKit Go.Proofs.YtameoapnhmoleaaW.PrintWords Go.Proofs.YtameoapnhmoleaaW.PrintLast Go.Proofs.YtameoapnhmoleaaW.PrintMore
attribute [local go_sem] max2_int min2_int max_two min_two max_three min_three max_four min_four   -- for this text's walks alone
set_option linter.unusedVariables false
set_option linter.unusedSimpArgs false
attribute [local go_sem high] eqA36
/-! ### quernlaw13_alive: function 8 -/
def quernlaw13_alive.f (k : Nat)  : Option (Bool) := (quernlaw13_reg.f 0).bind fun bt207 => ((quernlaw13_reg.f 1).bind fun bt209 => ((quernlaw13_reg.f 1).bind fun bt211 => ((quernlaw13_reg.f 0).bind fun bt213 => ((quernlaw13_reg.f 9).bind fun bt218 => ((moves_Order.f k (([(⟨(⟨bt207.1, bt207.2⟩ : S24), (⟨bt209.1, bt209.2⟩ : S24)⟩ : S36), (⟨(⟨bt211.1, bt211.2⟩ : S24), (⟨bt213.1, bt213.2⟩ : S24)⟩ : S36)] : List (S36))) bt218.1 bt218.2).bind fun bt220 => (if bt220.2 = 0 then ((quernlaw13_reg.f 9).bind fun bt224 => ((quernlaw13_reg.f 1).bind fun bt226 => ((quernlaw13_reg.f 1).bind fun bt228 => ((quernlaw13_reg.f 0).bind fun bt230 => ((quernlaw13_reg.f 0).bind fun bt232 => ((quernlaw13_reg.f 9).bind fun bt234 => ((quernlaw13_sameMoves.f k bt220.1 (([(⟨(⟨bt224.1, bt224.2⟩ : S24), (⟨bt226.1, bt226.2⟩ : S24)⟩ : S36), (⟨(⟨bt228.1, bt228.2⟩ : S24), (⟨bt230.1, bt230.2⟩ : S24)⟩ : S36), (⟨(⟨bt232.1, bt232.2⟩ : S24), (⟨bt234.1, bt234.2⟩ : S24)⟩ : S36)] : List (S36)))).bind fun t239 => (some t239)))))))) else (some false)))))))
theorem quernlaw13_alive.mono : ∀ k, LeO (quernlaw13_alive.f k ) (quernlaw13_alive.f (k + 1) ) := by
 intro  k
 unfold quernlaw13_alive.f
 repeat' first
   | (with_reducible exact moves_Order.mono _ _ _ _)
   | (with_reducible exact quernlaw13_sameMoves.mono _ _ _)
   | (with_reducible exact LeO.refl _)
   | (with_reducible exact LeO.none _)
   | (with_reducible refine LeO.ite ?_ ?_)
   | (with_reducible refine LeO.bind ?_ (fun _ => ?_))
   | exact moves_Order.mono _ _ _ _
   | exact quernlaw13_sameMoves.mono _ _ _
   | exact LeO.none _
   | refine LeO.ite ?_ ?_
   | refine LeO.bind ?_ (fun _ => ?_)
set_option maxHeartbeats 8000000 in
set_option maxRecDepth 100000 in
theorem quernlaw13_alive.calls (k : Nat)  (r : Bool) (w : World) (h : quernlaw13_alive.f k  = some r) :
  Calls Try.prog 8 #[] w fun e w' => e = .returned (.bool r) ∧ Below w.heap.size w w' := by
 have hu36 := Try.underlying36
 have HB := Aside0.mk (Below.refl w.heap.size w)
 have H : ((quernlaw13_reg.f 0).bind fun bt207 => ((quernlaw13_reg.f 1).bind fun bt209 => ((quernlaw13_reg.f 1).bind fun bt211 => ((quernlaw13_reg.f 0).bind fun bt213 => ((quernlaw13_reg.f 9).bind fun bt218 => ((moves_Order.f k (([(⟨(⟨bt207.1, bt207.2⟩ : S24), (⟨bt209.1, bt209.2⟩ : S24)⟩ : S36), (⟨(⟨bt211.1, bt211.2⟩ : S24), (⟨bt213.1, bt213.2⟩ : S24)⟩ : S36)] : List (S36))) bt218.1 bt218.2).bind fun bt220 => (if bt220.2 = 0 then ((quernlaw13_reg.f 9).bind fun bt224 => ((quernlaw13_reg.f 1).bind fun bt226 => ((quernlaw13_reg.f 1).bind fun bt228 => ((quernlaw13_reg.f 0).bind fun bt230 => ((quernlaw13_reg.f 0).bind fun bt232 => ((quernlaw13_reg.f 9).bind fun bt234 => ((quernlaw13_sameMoves.f k bt220.1 (([(⟨(⟨bt224.1, bt224.2⟩ : S24), (⟨bt226.1, bt226.2⟩ : S24)⟩ : S36), (⟨(⟨bt228.1, bt228.2⟩ : S24), (⟨bt230.1, bt230.2⟩ : S24)⟩ : S36), (⟨(⟨bt232.1, bt232.2⟩ : S24), (⟨bt234.1, bt234.2⟩ : S24)⟩ : S36)] : List (S36)))).bind fun t239 => (some t239)))))))) else (some false)))))))) = some r := h
 clear h
 replace H := Option.bind_eq_some_iff.mp H
 obtain ⟨⟨t207, t208⟩, A10, H⟩ := H
 replace H : ((quernlaw13_reg.f 1).bind fun bt209 => ((quernlaw13_reg.f 1).bind fun bt211 => ((quernlaw13_reg.f 0).bind fun bt213 => ((quernlaw13_reg.f 9).bind fun bt218 => ((moves_Order.f k (([(⟨(⟨t207, t208⟩ : S24), (⟨bt209.1, bt209.2⟩ : S24)⟩ : S36), (⟨(⟨bt211.1, bt211.2⟩ : S24), (⟨bt213.1, bt213.2⟩ : S24)⟩ : S36)] : List (S36))) bt218.1 bt218.2).bind fun bt220 => (if bt220.2 = 0 then ((quernlaw13_reg.f 9).bind fun bt224 => ((quernlaw13_reg.f 1).bind fun bt226 => ((quernlaw13_reg.f 1).bind fun bt228 => ((quernlaw13_reg.f 0).bind fun bt230 => ((quernlaw13_reg.f 0).bind fun bt232 => ((quernlaw13_reg.f 9).bind fun bt234 => ((quernlaw13_sameMoves.f k bt220.1 (([(⟨(⟨bt224.1, bt224.2⟩ : S24), (⟨bt226.1, bt226.2⟩ : S24)⟩ : S36), (⟨(⟨bt228.1, bt228.2⟩ : S24), (⟨bt230.1, bt230.2⟩ : S24)⟩ : S36), (⟨(⟨bt232.1, bt232.2⟩ : S24), (⟨bt234.1, bt234.2⟩ : S24)⟩ : S36)] : List (S36)))).bind fun t239 => (some t239)))))))) else (some false))))))) = some r := H
 have A1 := Aside0.mk A10
 clear A10
 replace H := Option.bind_eq_some_iff.mp H
 obtain ⟨⟨t209, t210⟩, A20, H⟩ := H
 replace H : ((quernlaw13_reg.f 1).bind fun bt211 => ((quernlaw13_reg.f 0).bind fun bt213 => ((quernlaw13_reg.f 9).bind fun bt218 => ((moves_Order.f k (([(⟨(⟨t207, t208⟩ : S24), (⟨t209, t210⟩ : S24)⟩ : S36), (⟨(⟨bt211.1, bt211.2⟩ : S24), (⟨bt213.1, bt213.2⟩ : S24)⟩ : S36)] : List (S36))) bt218.1 bt218.2).bind fun bt220 => (if bt220.2 = 0 then ((quernlaw13_reg.f 9).bind fun bt224 => ((quernlaw13_reg.f 1).bind fun bt226 => ((quernlaw13_reg.f 1).bind fun bt228 => ((quernlaw13_reg.f 0).bind fun bt230 => ((quernlaw13_reg.f 0).bind fun bt232 => ((quernlaw13_reg.f 9).bind fun bt234 => ((quernlaw13_sameMoves.f k bt220.1 (([(⟨(⟨bt224.1, bt224.2⟩ : S24), (⟨bt226.1, bt226.2⟩ : S24)⟩ : S36), (⟨(⟨bt228.1, bt228.2⟩ : S24), (⟨bt230.1, bt230.2⟩ : S24)⟩ : S36), (⟨(⟨bt232.1, bt232.2⟩ : S24), (⟨bt234.1, bt234.2⟩ : S24)⟩ : S36)] : List (S36)))).bind fun t239 => (some t239)))))))) else (some false)))))) = some r := H
 have A2 := Aside0.mk A20
 clear A20
 replace H := Option.bind_eq_some_iff.mp H
 obtain ⟨⟨t211, t212⟩, A30, H⟩ := H
 replace H : ((quernlaw13_reg.f 0).bind fun bt213 => ((quernlaw13_reg.f 9).bind fun bt218 => ((moves_Order.f k (([(⟨(⟨t207, t208⟩ : S24), (⟨t209, t210⟩ : S24)⟩ : S36), (⟨(⟨t211, t212⟩ : S24), (⟨bt213.1, bt213.2⟩ : S24)⟩ : S36)] : List (S36))) bt218.1 bt218.2).bind fun bt220 => (if bt220.2 = 0 then ((quernlaw13_reg.f 9).bind fun bt224 => ((quernlaw13_reg.f 1).bind fun bt226 => ((quernlaw13_reg.f 1).bind fun bt228 => ((quernlaw13_reg.f 0).bind fun bt230 => ((quernlaw13_reg.f 0).bind fun bt232 => ((quernlaw13_reg.f 9).bind fun bt234 => ((quernlaw13_sameMoves.f k bt220.1 (([(⟨(⟨bt224.1, bt224.2⟩ : S24), (⟨bt226.1, bt226.2⟩ : S24)⟩ : S36), (⟨(⟨bt228.1, bt228.2⟩ : S24), (⟨bt230.1, bt230.2⟩ : S24)⟩ : S36), (⟨(⟨bt232.1, bt232.2⟩ : S24), (⟨bt234.1, bt234.2⟩ : S24)⟩ : S36)] : List (S36)))).bind fun t239 => (some t239)))))))) else (some false))))) = some r := H
 have A3 := Aside0.mk A30
 clear A30
 replace H := Option.bind_eq_some_iff.mp H
 obtain ⟨⟨t213, t214⟩, A40, H⟩ := H
 replace H : ((quernlaw13_reg.f 9).bind fun bt218 => ((moves_Order.f k (([(⟨(⟨t207, t208⟩ : S24), (⟨t209, t210⟩ : S24)⟩ : S36), (⟨(⟨t211, t212⟩ : S24), (⟨t213, t214⟩ : S24)⟩ : S36)] : List (S36))) bt218.1 bt218.2).bind fun bt220 => (if bt220.2 = 0 then ((quernlaw13_reg.f 9).bind fun bt224 => ((quernlaw13_reg.f 1).bind fun bt226 => ((quernlaw13_reg.f 1).bind fun bt228 => ((quernlaw13_reg.f 0).bind fun bt230 => ((quernlaw13_reg.f 0).bind fun bt232 => ((quernlaw13_reg.f 9).bind fun bt234 => ((quernlaw13_sameMoves.f k bt220.1 (([(⟨(⟨bt224.1, bt224.2⟩ : S24), (⟨bt226.1, bt226.2⟩ : S24)⟩ : S36), (⟨(⟨bt228.1, bt228.2⟩ : S24), (⟨bt230.1, bt230.2⟩ : S24)⟩ : S36), (⟨(⟨bt232.1, bt232.2⟩ : S24), (⟨bt234.1, bt234.2⟩ : S24)⟩ : S36)] : List (S36)))).bind fun t239 => (some t239)))))))) else (some false)))) = some r := H
 have A4 := Aside0.mk A40
 clear A40
 obtain ⟨y215, hy215⟩ : ∃ y_ : List (S36), y_ = (([(⟨(⟨t207, t208⟩ : S24), (⟨t209, t210⟩ : S24)⟩ : S36), (⟨(⟨t211, t212⟩ : S24), (⟨t213, t214⟩ : S24)⟩ : S36)] : List (S36))) := ⟨_, rfl⟩
 replace H : ((quernlaw13_reg.f 9).bind fun bt218 => ((moves_Order.f k y215 bt218.1 bt218.2).bind fun bt220 => (if bt220.2 = 0 then ((quernlaw13_reg.f 9).bind fun bt224 => ((quernlaw13_reg.f 1).bind fun bt226 => ((quernlaw13_reg.f 1).bind fun bt228 => ((quernlaw13_reg.f 0).bind fun bt230 => ((quernlaw13_reg.f 0).bind fun bt232 => ((quernlaw13_reg.f 9).bind fun bt234 => ((quernlaw13_sameMoves.f k bt220.1 (([(⟨(⟨bt224.1, bt224.2⟩ : S24), (⟨bt226.1, bt226.2⟩ : S24)⟩ : S36), (⟨(⟨bt228.1, bt228.2⟩ : S24), (⟨bt230.1, bt230.2⟩ : S24)⟩ : S36), (⟨(⟨bt232.1, bt232.2⟩ : S24), (⟨bt234.1, bt234.2⟩ : S24)⟩ : S36)] : List (S36)))).bind fun t239 => (some t239)))))))) else (some false)))) = some r := by first | (rw [hy215]; with_reducible exact H) | (have H2_ := (Option.bind_some _ _).symm.trans H; rw [hy215]; with_reducible exact H2_) | (have H2_ := (Option.bind_some _ _).symm.trans H; with_reducible exact H2_) | with_reducible exact H | (rw [hy215]; exact H) | exact H
 have Ny215 := Aside0.mk hy215
 clear hy215
 replace H := Option.bind_eq_some_iff.mp H
 obtain ⟨⟨t218, t219⟩, A50, H⟩ := H
 replace H : ((moves_Order.f k y215 t218 t219).bind fun bt220 => (if bt220.2 = 0 then ((quernlaw13_reg.f 9).bind fun bt224 => ((quernlaw13_reg.f 1).bind fun bt226 => ((quernlaw13_reg.f 1).bind fun bt228 => ((quernlaw13_reg.f 0).bind fun bt230 => ((quernlaw13_reg.f 0).bind fun bt232 => ((quernlaw13_reg.f 9).bind fun bt234 => ((quernlaw13_sameMoves.f k bt220.1 (([(⟨(⟨bt224.1, bt224.2⟩ : S24), (⟨bt226.1, bt226.2⟩ : S24)⟩ : S36), (⟨(⟨bt228.1, bt228.2⟩ : S24), (⟨bt230.1, bt230.2⟩ : S24)⟩ : S36), (⟨(⟨bt232.1, bt232.2⟩ : S24), (⟨bt234.1, bt234.2⟩ : S24)⟩ : S36)] : List (S36)))).bind fun t239 => (some t239)))))))) else (some false))) = some r := H
 have A5 := Aside0.mk A50
 clear A50
 replace H := Option.bind_eq_some_iff.mp H
 obtain ⟨⟨t220, t223⟩, A60, H⟩ := H
 replace H : (if t223 = 0 then ((quernlaw13_reg.f 9).bind fun bt224 => ((quernlaw13_reg.f 1).bind fun bt226 => ((quernlaw13_reg.f 1).bind fun bt228 => ((quernlaw13_reg.f 0).bind fun bt230 => ((quernlaw13_reg.f 0).bind fun bt232 => ((quernlaw13_reg.f 9).bind fun bt234 => ((quernlaw13_sameMoves.f k t220 (([(⟨(⟨bt224.1, bt224.2⟩ : S24), (⟨bt226.1, bt226.2⟩ : S24)⟩ : S36), (⟨(⟨bt228.1, bt228.2⟩ : S24), (⟨bt230.1, bt230.2⟩ : S24)⟩ : S36), (⟨(⟨bt232.1, bt232.2⟩ : S24), (⟨bt234.1, bt234.2⟩ : S24)⟩ : S36)] : List (S36)))).bind fun t239 => (some t239)))))))) else (some false)) = some r := H
 have A6 := Aside0.mk A60
 clear A60
 by_cases c7 : t223 = 0
 ·rw [if_pos c7] at H
  have c7b0 : (t223 == 0) = true := beq_iff_eq.mpr c7
  have c7b1 : (t223 != 0) = false := bne_eq_false_iff_eq.mpr c7
  clear c7
  replace H := Option.bind_eq_some_iff.mp H
  obtain ⟨⟨t224, t225⟩, A80, H⟩ := H
  replace H : ((quernlaw13_reg.f 1).bind fun bt226 => ((quernlaw13_reg.f 1).bind fun bt228 => ((quernlaw13_reg.f 0).bind fun bt230 => ((quernlaw13_reg.f 0).bind fun bt232 => ((quernlaw13_reg.f 9).bind fun bt234 => ((quernlaw13_sameMoves.f k t220 (([(⟨(⟨t224, t225⟩ : S24), (⟨bt226.1, bt226.2⟩ : S24)⟩ : S36), (⟨(⟨bt228.1, bt228.2⟩ : S24), (⟨bt230.1, bt230.2⟩ : S24)⟩ : S36), (⟨(⟨bt232.1, bt232.2⟩ : S24), (⟨bt234.1, bt234.2⟩ : S24)⟩ : S36)] : List (S36)))).bind fun t239 => (some t239))))))) = some r := H
  have A8 := Aside0.mk A80
  clear A80
  replace H := Option.bind_eq_some_iff.mp H
  obtain ⟨⟨t226, t227⟩, A90, H⟩ := H
  replace H : ((quernlaw13_reg.f 1).bind fun bt228 => ((quernlaw13_reg.f 0).bind fun bt230 => ((quernlaw13_reg.f 0).bind fun bt232 => ((quernlaw13_reg.f 9).bind fun bt234 => ((quernlaw13_sameMoves.f k t220 (([(⟨(⟨t224, t225⟩ : S24), (⟨t226, t227⟩ : S24)⟩ : S36), (⟨(⟨bt228.1, bt228.2⟩ : S24), (⟨bt230.1, bt230.2⟩ : S24)⟩ : S36), (⟨(⟨bt232.1, bt232.2⟩ : S24), (⟨bt234.1, bt234.2⟩ : S24)⟩ : S36)] : List (S36)))).bind fun t239 => (some t239)))))) = some r := H
  have A9 := Aside0.mk A90
  clear A90
  replace H := Option.bind_eq_some_iff.mp H
  obtain ⟨⟨t228, t229⟩, A100, H⟩ := H
  replace H : ((quernlaw13_reg.f 0).bind fun bt230 => ((quernlaw13_reg.f 0).bind fun bt232 => ((quernlaw13_reg.f 9).bind fun bt234 => ((quernlaw13_sameMoves.f k t220 (([(⟨(⟨t224, t225⟩ : S24), (⟨t226, t227⟩ : S24)⟩ : S36), (⟨(⟨t228, t229⟩ : S24), (⟨bt230.1, bt230.2⟩ : S24)⟩ : S36), (⟨(⟨bt232.1, bt232.2⟩ : S24), (⟨bt234.1, bt234.2⟩ : S24)⟩ : S36)] : List (S36)))).bind fun t239 => (some t239))))) = some r := H
  have A10 := Aside0.mk A100
  clear A100
  replace H := Option.bind_eq_some_iff.mp H
  obtain ⟨⟨t230, t231⟩, A110, H⟩ := H
  replace H : ((quernlaw13_reg.f 0).bind fun bt232 => ((quernlaw13_reg.f 9).bind fun bt234 => ((quernlaw13_sameMoves.f k t220 (([(⟨(⟨t224, t225⟩ : S24), (⟨t226, t227⟩ : S24)⟩ : S36), (⟨(⟨t228, t229⟩ : S24), (⟨t230, t231⟩ : S24)⟩ : S36), (⟨(⟨bt232.1, bt232.2⟩ : S24), (⟨bt234.1, bt234.2⟩ : S24)⟩ : S36)] : List (S36)))).bind fun t239 => (some t239)))) = some r := H
  have A11 := Aside0.mk A110
  clear A110
  replace H := Option.bind_eq_some_iff.mp H
  obtain ⟨⟨t232, t233⟩, A120, H⟩ := H
  replace H : ((quernlaw13_reg.f 9).bind fun bt234 => ((quernlaw13_sameMoves.f k t220 (([(⟨(⟨t224, t225⟩ : S24), (⟨t226, t227⟩ : S24)⟩ : S36), (⟨(⟨t228, t229⟩ : S24), (⟨t230, t231⟩ : S24)⟩ : S36), (⟨(⟨t232, t233⟩ : S24), (⟨bt234.1, bt234.2⟩ : S24)⟩ : S36)] : List (S36)))).bind fun t239 => (some t239))) = some r := H
  have A12 := Aside0.mk A120
  clear A120
  replace H := Option.bind_eq_some_iff.mp H
  obtain ⟨⟨t234, t235⟩, A130, H⟩ := H
  replace H : ((quernlaw13_sameMoves.f k t220 (([(⟨(⟨t224, t225⟩ : S24), (⟨t226, t227⟩ : S24)⟩ : S36), (⟨(⟨t228, t229⟩ : S24), (⟨t230, t231⟩ : S24)⟩ : S36), (⟨(⟨t232, t233⟩ : S24), (⟨t234, t235⟩ : S24)⟩ : S36)] : List (S36)))).bind fun t239 => (some t239)) = some r := H
  have A13 := Aside0.mk A130
  clear A130
  obtain ⟨y236, hy236⟩ : ∃ y_ : List (S36), y_ = (([(⟨(⟨t224, t225⟩ : S24), (⟨t226, t227⟩ : S24)⟩ : S36), (⟨(⟨t228, t229⟩ : S24), (⟨t230, t231⟩ : S24)⟩ : S36), (⟨(⟨t232, t233⟩ : S24), (⟨t234, t235⟩ : S24)⟩ : S36)] : List (S36))) := ⟨_, rfl⟩
  replace H : ((quernlaw13_sameMoves.f k t220 y236).bind fun t239 => (some t239)) = some r := by first | (rw [hy236]; with_reducible exact H) | (have H2_ := (Option.bind_some _ _).symm.trans H; rw [hy236]; with_reducible exact H2_) | (have H2_ := (Option.bind_some _ _).symm.trans H; with_reducible exact H2_) | with_reducible exact H | (rw [hy236]; exact H) | exact H
  have Ny236 := Aside0.mk hy236
  clear hy236
  replace H := Option.bind_eq_some_iff.mp H
  obtain ⟨t239, A140, H⟩ := H
  replace H : (some t239) = some r := H
  have A14 := Aside0.mk A140
  clear A140
  obtain rfl := Option.some.inj H
  have EA10 := Option.some.inj (A9.out.symm.trans A10.out)
  obtain rfl : t226 = t228 := congrArg Prod.fst EA10
  obtain rfl : t227 = t229 := congrArg Prod.snd EA10
  clear EA10
  have EA12 := Option.some.inj (A11.out.symm.trans A12.out)
  obtain rfl : t230 = t232 := congrArg Prod.fst EA12
  obtain rfl : t231 = t233 := congrArg Prod.snd EA12
  clear EA12
  have EA13 := Option.some.inj (A8.out.symm.trans A13.out)
  obtain rfl : t224 = t234 := congrArg Prod.fst EA13
  obtain rfl : t225 = t235 := congrArg Prod.snd EA13
  clear EA13
  go_enter Try.func8, Try.ntmps8
  go_wp2_with (first | ((with_reducible refine gate_callee (f := 17) rfl ?_); refine goesL_ (some 4) rfl rfl Try.func17 (by kernel_rfl) rfl #[.int .i64 0] rfl (by (try simp only [List.map_toArray, List.map_cons, List.map_nil]); first | done | rfl | (simp only [List.length_drop, List.length_take]; rfl)) ?_; (with_reducible refine (quernlaw13_reg.calls 0 t207 t208 _ A1.out).mono ?_); rintro e w15 ⟨rfl, hb⟩; refine ⟨_, rfl, ?_⟩; have n0_ := Aside0.mk (below_step (by repeat (first | (with_reducible first | exact HB.out | apply below_alloc | apply pw_below_drewN | apply below_drew1) | exact HB.out)) hb); clear HB; have HB := n0_; clear n0_; (try clear hb); (try clear hb2); (try clear hk); (try clear hi)) | ((with_reducible refine gate_callee (f := 17) rfl ?_); refine goesL_ (some 5) rfl rfl Try.func17 (by kernel_rfl) rfl #[.int .i64 1] rfl (by (try simp only [List.map_toArray, List.map_cons, List.map_nil]); first | done | rfl | (simp only [List.length_drop, List.length_take]; rfl)) ?_; (with_reducible refine (quernlaw13_reg.calls 1 t209 t210 _ A2.out).mono ?_); rintro e w16 ⟨rfl, hb⟩; refine ⟨_, rfl, ?_⟩; have n0_ := Aside0.mk (below_step (by repeat (first | (with_reducible first | exact HB.out | apply below_alloc | apply pw_below_drewN | apply below_drew1) | exact HB.out)) hb); clear HB; have HB := n0_; clear n0_; (try clear hb); (try clear hb2); (try clear hk); (try clear hi)) | ((with_reducible refine gate_callee (f := 17) rfl ?_); refine goesL_ (some 7) rfl rfl Try.func17 (by kernel_rfl) rfl #[.int .i64 1] rfl (by (try simp only [List.map_toArray, List.map_cons, List.map_nil]); first | done | rfl | (simp only [List.length_drop, List.length_take]; rfl)) ?_; (with_reducible refine (quernlaw13_reg.calls 1 t211 t212 _ A3.out).mono ?_); rintro e w17 ⟨rfl, hb⟩; refine ⟨_, rfl, ?_⟩; have n0_ := Aside0.mk (below_step (by repeat (first | (with_reducible first | exact HB.out | apply below_alloc | apply pw_below_drewN | apply below_drew1) | exact HB.out)) hb); clear HB; have HB := n0_; clear n0_; (try clear hb); (try clear hb2); (try clear hk); (try clear hi)) | ((with_reducible refine gate_callee (f := 17) rfl ?_); refine goesL_ (some 8) rfl rfl Try.func17 (by kernel_rfl) rfl #[.int .i64 0] rfl (by (try simp only [List.map_toArray, List.map_cons, List.map_nil]); first | done | rfl | (simp only [List.length_drop, List.length_take]; rfl)) ?_; (with_reducible refine (quernlaw13_reg.calls 0 t213 t214 _ A4.out).mono ?_); rintro e w18 ⟨rfl, hb⟩; refine ⟨_, rfl, ?_⟩; have n0_ := Aside0.mk (below_step (by repeat (first | (with_reducible first | exact HB.out | apply below_alloc | apply pw_below_drewN | apply below_drew1) | exact HB.out)) hb); clear HB; have HB := n0_; clear n0_; (try clear hb); (try clear hb2); (try clear hk); (try clear hi)) | ((with_reducible refine gate_dst (N := 10) rfl ?_); (try (refine gate_guard (by rfl) ?_; dsimp only)); refine Kd.R_lit k36 _ 36 ?hg (N := 10) ?hd (xs := ([(⟨(⟨t207, t208⟩ : S24), (⟨t209, t210⟩ : S24)⟩ : S36), (⟨(⟨t211, t212⟩ : S24), (⟨t213, t214⟩ : S24)⟩ : S36)] : List (S36))) (inner := [.int .i64 t207, .int .i64 t208, .int .i64 t209, .int .i64 t210, .int .i64 t211, .int .i64 t212, .int .i64 t213, .int .i64 t214]) (ok := fun _ => True) (okp := fun _ => True) ?hr ?hp (fun _ hk => hk) trivial (Below.refl _ _) (Nat.le_refl _) (by simp) ?_; (case hd => rfl); (case hg => rfl); (case hr => first | (go_simp; done) | (go_simp; rfl)); (case hp => exact (Reps.c4 (show Kd.M k36 _ _ _ (⟨(⟨t207, t208⟩ : S24), (⟨t209, t210⟩ : S24)⟩ : S36) [.int .i64 t207, .int .i64 t208, .int .i64 t209, .int .i64 t210] from (k36_mkM _ _ _ (⟨(⟨t207, t208⟩ : S24), (⟨t209, t210⟩ : S24)⟩ : S36) )) (Reps.c4 (show Kd.M k36 _ _ _ (⟨(⟨t211, t212⟩ : S24), (⟨t213, t214⟩ : S24)⟩ : S36) [.int .i64 t211, .int .i64 t212, .int .i64 t213, .int .i64 t214] from (k36_mkM _ _ _ (⟨(⟨t211, t212⟩ : S24), (⟨t213, t214⟩ : S24)⟩ : S36) )) (Reps.none _ _)))); intro v216 w19 ho20 hb hg_ hnew_; clear hg_ hnew_; (first | rw [← Ny215.out] at ho20 | (simp only [Int.reduceToNat] at ho20; rw [← Ny215.out] at ho20)); have n0_ := Aside0.mk (Kd.R_lower ho20 (below_size (by repeat (first | (with_reducible first | exact HB.out | apply below_alloc | apply pw_below_drewN | apply below_drew1) | exact HB.out)))); have n1_ := Aside0.mk (below_step (by repeat (first | (with_reducible first | exact HB.out | apply below_alloc | apply pw_below_drewN | apply below_drew1) | exact HB.out)) hb); clear HB; have HO217 := n0_; have HB := n1_; clear n0_ n1_; clear hb ho20) | ((with_reducible refine gate_callee (f := 17) rfl ?_); refine goesL_ (some 11) rfl rfl Try.func17 (by kernel_rfl) rfl #[.int .i64 9] rfl (by (try simp only [List.map_toArray, List.map_cons, List.map_nil]); first | done | rfl | (simp only [List.length_drop, List.length_take]; rfl)) ?_; (with_reducible refine (quernlaw13_reg.calls 9 t218 t219 _ A5.out).mono ?_); rintro e w21 ⟨rfl, hb⟩; refine ⟨_, rfl, ?_⟩; have n0_ := Aside0.mk (Kd.R_below (by (with_reducible repeat (first | apply Kd.R_alloc | apply Kd.R_drewN | apply Kd.R_drew)); exact HO217.out) hb); have n1_ := Aside0.mk (below_step (by repeat (first | (with_reducible first | exact HB.out | apply below_alloc | apply pw_below_drewN | apply below_drew1) | exact HB.out)) hb); clear HO217; clear HB; have HO217 := n0_; have HB := n1_; clear n0_ n1_; (try clear hb); (try clear hb2); (try clear hk); (try clear hi); obtain ⟨Ao22, co22, eo22⟩ := Kd.R_slice HO217.out; subst eo22) | ((with_reducible refine gate_callee (f := 10) rfl ?_); refine goesL_ (some 12) rfl rfl Try.func10 (by kernel_rfl) rfl #[.slice Ao22 y215.length co22, .agg #[.int .i64 t218, .int .i64 t219]] rfl (by (try simp only [List.map_toArray, List.map_cons, List.map_nil]); first | done | rfl | (simp only [List.length_drop, List.length_take]; rfl)) ?_; (with_reducible refine (moves_Order.calls k _ _ y215 t218 t219 t220 t223 _ ?side1 ?side2 A6.out).mono ?_); (case side1 => repeat (first | exact (Kd.R_reads' HO217.out).2.2 | (with_reducible refine Kd.C_alloc ?_ _) | (with_reducible refine Kd.C_drewN ?_ _) | (with_reducible refine Kd.C_drew ?_))); (case side2 => exact (Kd.R_reads' HO217.out).2.1); rintro e w23 ⟨v221, rfl, ho0, hb⟩; refine ⟨_, rfl, ?_⟩; have n0_ := Aside0.mk (Kd.R_elder' (by (with_reducible repeat (first | apply Kd.R_alloc | apply Kd.R_drewN | apply Kd.R_drew)); exact HO217.out) (Kd.R_base ho0) hb); have n1_ := Aside0.mk (Kd.R_lower (Kd.R_new' ho0 (Kd.R_lt (by (with_reducible repeat (first | apply Kd.R_alloc | apply Kd.R_drewN | apply Kd.R_drew)); exact HO217.out))) (below_size (by repeat (first | (with_reducible first | exact HB.out | apply below_alloc | apply pw_below_drewN | apply below_drew1) | exact HB.out)))); have n2_ := Aside0.mk (below_step (by repeat (first | (with_reducible first | exact HB.out | apply below_alloc | apply pw_below_drewN | apply below_drew1) | exact HB.out)) hb); clear HO217; clear HB; have HO217 := n0_; have HO222 := n1_; have HB := n2_; clear n0_ n1_ n2_; (try clear hb); (try clear hb2); (try clear hk); (try clear hi); (try clear ho0)) | (go_at_call 17; (with_reducible refine (quernlaw13_reg.calls 9 t224 t225 _ A8.out).mono ?_); rintro e w24 ⟨rfl, hb⟩; have n0_ := Aside0.mk (Kd.R_below (by (with_reducible repeat (first | apply Kd.R_alloc | apply Kd.R_drewN | apply Kd.R_drew)); exact HO217.out) hb); have n1_ := Aside0.mk (Kd.R_below (by (with_reducible repeat (first | apply Kd.R_alloc | apply Kd.R_drewN | apply Kd.R_drew)); exact HO222.out) hb); have n2_ := Aside0.mk (below_step (by repeat (first | (with_reducible first | exact HB.out | apply below_alloc | apply pw_below_drewN | apply below_drew1) | exact HB.out)) hb); clear HO217; clear HO222; clear HB; have HO217 := n0_; have HO222 := n1_; have HB := n2_; clear n0_ n1_ n2_; (try clear hb); (try clear hb2); (try clear hk); (try clear hi)) | (go_at_call 17; (with_reducible refine (quernlaw13_reg.calls 1 t226 t227 _ A9.out).mono ?_); rintro e w25 ⟨rfl, hb⟩; have n0_ := Aside0.mk (Kd.R_below (by (with_reducible repeat (first | apply Kd.R_alloc | apply Kd.R_drewN | apply Kd.R_drew)); exact HO217.out) hb); have n1_ := Aside0.mk (Kd.R_below (by (with_reducible repeat (first | apply Kd.R_alloc | apply Kd.R_drewN | apply Kd.R_drew)); exact HO222.out) hb); have n2_ := Aside0.mk (below_step (by repeat (first | (with_reducible first | exact HB.out | apply below_alloc | apply pw_below_drewN | apply below_drew1) | exact HB.out)) hb); clear HO217; clear HO222; clear HB; have HO217 := n0_; have HO222 := n1_; have HB := n2_; clear n0_ n1_ n2_; (try clear hb); (try clear hb2); (try clear hk); (try clear hi)) | (go_at_call 17; (with_reducible refine (quernlaw13_reg.calls 1 t226 t227 _ A10.out).mono ?_); rintro e w26 ⟨rfl, hb⟩; have n0_ := Aside0.mk (Kd.R_below (by (with_reducible repeat (first | apply Kd.R_alloc | apply Kd.R_drewN | apply Kd.R_drew)); exact HO217.out) hb); have n1_ := Aside0.mk (Kd.R_below (by (with_reducible repeat (first | apply Kd.R_alloc | apply Kd.R_drewN | apply Kd.R_drew)); exact HO222.out) hb); have n2_ := Aside0.mk (below_step (by repeat (first | (with_reducible first | exact HB.out | apply below_alloc | apply pw_below_drewN | apply below_drew1) | exact HB.out)) hb); clear HO217; clear HO222; clear HB; have HO217 := n0_; have HO222 := n1_; have HB := n2_; clear n0_ n1_ n2_; (try clear hb); (try clear hb2); (try clear hk); (try clear hi)) | (go_at_call 17; (with_reducible refine (quernlaw13_reg.calls 0 t230 t231 _ A11.out).mono ?_); rintro e w27 ⟨rfl, hb⟩; have n0_ := Aside0.mk (Kd.R_below (by (with_reducible repeat (first | apply Kd.R_alloc | apply Kd.R_drewN | apply Kd.R_drew)); exact HO217.out) hb); have n1_ := Aside0.mk (Kd.R_below (by (with_reducible repeat (first | apply Kd.R_alloc | apply Kd.R_drewN | apply Kd.R_drew)); exact HO222.out) hb); have n2_ := Aside0.mk (below_step (by repeat (first | (with_reducible first | exact HB.out | apply below_alloc | apply pw_below_drewN | apply below_drew1) | exact HB.out)) hb); clear HO217; clear HO222; clear HB; have HO217 := n0_; have HO222 := n1_; have HB := n2_; clear n0_ n1_ n2_; (try clear hb); (try clear hb2); (try clear hk); (try clear hi)) | (go_at_call 17; (with_reducible refine (quernlaw13_reg.calls 0 t230 t231 _ A12.out).mono ?_); rintro e w28 ⟨rfl, hb⟩; have n0_ := Aside0.mk (Kd.R_below (by (with_reducible repeat (first | apply Kd.R_alloc | apply Kd.R_drewN | apply Kd.R_drew)); exact HO217.out) hb); have n1_ := Aside0.mk (Kd.R_below (by (with_reducible repeat (first | apply Kd.R_alloc | apply Kd.R_drewN | apply Kd.R_drew)); exact HO222.out) hb); have n2_ := Aside0.mk (below_step (by repeat (first | (with_reducible first | exact HB.out | apply below_alloc | apply pw_below_drewN | apply below_drew1) | exact HB.out)) hb); clear HO217; clear HO222; clear HB; have HO217 := n0_; have HO222 := n1_; have HB := n2_; clear n0_ n1_ n2_; (try clear hb); (try clear hb2); (try clear hk); (try clear hi)) | (go_at_call 17; (with_reducible refine (quernlaw13_reg.calls 9 t224 t225 _ A13.out).mono ?_); rintro e w29 ⟨rfl, hb⟩; have n0_ := Aside0.mk (Kd.R_below (by (with_reducible repeat (first | apply Kd.R_alloc | apply Kd.R_drewN | apply Kd.R_drew)); exact HO217.out) hb); have n1_ := Aside0.mk (Kd.R_below (by (with_reducible repeat (first | apply Kd.R_alloc | apply Kd.R_drewN | apply Kd.R_drew)); exact HO222.out) hb); have n2_ := Aside0.mk (below_step (by repeat (first | (with_reducible first | exact HB.out | apply below_alloc | apply pw_below_drewN | apply below_drew1) | exact HB.out)) hb); clear HO217; clear HO222; clear HB; have HO217 := n0_; have HO222 := n1_; have HB := n2_; clear n0_ n1_ n2_; (try clear hb); (try clear hb2); (try clear hk); (try clear hi)) | ((with_reducible refine gate_dst (N := 28) rfl ?_); (try (refine gate_guard (by rfl) ?_; dsimp only)); refine Kd.R_lit k36 _ 36 ?hg (N := 28) ?hd (xs := ([(⟨(⟨t224, t225⟩ : S24), (⟨t226, t227⟩ : S24)⟩ : S36), (⟨(⟨t226, t227⟩ : S24), (⟨t230, t231⟩ : S24)⟩ : S36), (⟨(⟨t230, t231⟩ : S24), (⟨t224, t225⟩ : S24)⟩ : S36)] : List (S36))) (inner := [.int .i64 t224, .int .i64 t225, .int .i64 t226, .int .i64 t227, .int .i64 t226, .int .i64 t227, .int .i64 t230, .int .i64 t231, .int .i64 t230, .int .i64 t231, .int .i64 t224, .int .i64 t225]) (ok := fun _ => True) (okp := fun _ => True) ?hr ?hp (fun _ hk => hk) trivial (Below.refl _ _) (Nat.le_refl _) (by simp) ?_; (case hd => rfl); (case hg => rfl); (case hr => first | (go_simp; done) | (go_simp; rfl)); (case hp => exact (Reps.c4 (show Kd.M k36 _ _ _ (⟨(⟨t224, t225⟩ : S24), (⟨t226, t227⟩ : S24)⟩ : S36) [.int .i64 t224, .int .i64 t225, .int .i64 t226, .int .i64 t227] from (k36_mkM _ _ _ (⟨(⟨t224, t225⟩ : S24), (⟨t226, t227⟩ : S24)⟩ : S36) )) (Reps.c4 (show Kd.M k36 _ _ _ (⟨(⟨t226, t227⟩ : S24), (⟨t230, t231⟩ : S24)⟩ : S36) [.int .i64 t226, .int .i64 t227, .int .i64 t230, .int .i64 t231] from (k36_mkM _ _ _ (⟨(⟨t226, t227⟩ : S24), (⟨t230, t231⟩ : S24)⟩ : S36) )) (Reps.c4 (show Kd.M k36 _ _ _ (⟨(⟨t230, t231⟩ : S24), (⟨t224, t225⟩ : S24)⟩ : S36) [.int .i64 t230, .int .i64 t231, .int .i64 t224, .int .i64 t225] from (k36_mkM _ _ _ (⟨(⟨t230, t231⟩ : S24), (⟨t224, t225⟩ : S24)⟩ : S36) )) (Reps.none _ _))))); intro v237 w30 ho31 hb hg_ hnew_; clear hg_ hnew_; (first | rw [← Ny236.out] at ho31 | (simp only [Int.reduceToNat] at ho31; rw [← Ny236.out] at ho31)); have n0_ := Aside0.mk (Kd.R_elder' (by (with_reducible repeat (first | apply Kd.R_alloc | apply Kd.R_drewN | apply Kd.R_drew)); exact HO217.out) (Kd.R_base ho31) hb); have n1_ := Aside0.mk (Kd.R_elder' (by (with_reducible repeat (first | apply Kd.R_alloc | apply Kd.R_drewN | apply Kd.R_drew)); exact HO222.out) (Kd.R_base ho31) hb); have n2_ := Aside0.mk (Kd.R_lower (Kd.R_new' (Kd.R_new' ho31 (Kd.R_lt (by (with_reducible repeat (first | apply Kd.R_alloc | apply Kd.R_drewN | apply Kd.R_drew)); exact HO217.out))) (Kd.R_lt (by (with_reducible repeat (first | apply Kd.R_alloc | apply Kd.R_drewN | apply Kd.R_drew)); exact HO222.out))) (below_size (by repeat (first | (with_reducible first | exact HB.out | apply below_alloc | apply pw_below_drewN | apply below_drew1) | exact HB.out)))); have n3_ := Aside0.mk (below_step (by repeat (first | (with_reducible first | exact HB.out | apply below_alloc | apply pw_below_drewN | apply below_drew1) | exact HB.out)) hb); clear HO217; clear HO222; clear HB; have HO217 := n0_; have HO222 := n1_; have HO238 := n2_; have HB := n3_; clear n0_ n1_ n2_ n3_; clear hb ho31; obtain ⟨Ao32, co32, eo32⟩ := Kd.R_slice HO222.out; subst eo32; obtain ⟨Ao33, co33, eo33⟩ := Kd.R_slice HO238.out; subst eo33) | (go_at_call 13; (with_reducible refine (quernlaw13_sameMoves.calls k _ _ t220 _ _ y236 t239 _ ?side1 ?side2 ?side3 ?side4 A14.out).mono ?_); (case side1 => repeat (first | exact (Kd.R_reads' HO222.out).2.2 | (with_reducible refine Kd.C_alloc ?_ _) | (with_reducible refine Kd.C_drewN ?_ _) | (with_reducible refine Kd.C_drew ?_))); (case side2 => exact (Kd.R_reads' HO222.out).2.1); (case side3 => repeat (first | exact (Kd.R_reads' HO238.out).2.2 | (with_reducible refine Kd.C_alloc ?_ _) | (with_reducible refine Kd.C_drewN ?_ _) | (with_reducible refine Kd.C_drew ?_))); (case side4 => exact (Kd.R_reads' HO238.out).2.1); rintro e w' ⟨rfl, ⟨nd, rfl⟩⟩))
  go_ret
  exact ⟨by first | rfl | (simp [errW_none, errW_some] <;> rfl) | (simp [*, errW_none, errW_some] <;> rfl), by repeat (first | (with_reducible first | exact HB.out | apply below_alloc | apply pw_below_drewN | apply below_drew1) | exact HB.out)⟩
 ·rw [if_neg c7] at H
  have c7b0 : (t223 == 0) = false := beq_eq_false_iff_ne.mpr c7
  have c7b1 : (t223 != 0) = true := bne_iff_ne.mpr c7
  obtain rfl := Option.some.inj H
  go_enter Try.func8, Try.ntmps8
  go_wp2_with (first | ((with_reducible refine gate_callee (f := 17) rfl ?_); refine goesL_ (some 4) rfl rfl Try.func17 (by kernel_rfl) rfl #[.int .i64 0] rfl (by (try simp only [List.map_toArray, List.map_cons, List.map_nil]); first | done | rfl | (simp only [List.length_drop, List.length_take]; rfl)) ?_; (with_reducible refine (quernlaw13_reg.calls 0 t207 t208 _ A1.out).mono ?_); rintro e w34 ⟨rfl, hb⟩; refine ⟨_, rfl, ?_⟩; have n0_ := Aside0.mk (below_step (by repeat (first | (with_reducible first | exact HB.out | apply below_alloc | apply pw_below_drewN | apply below_drew1) | exact HB.out)) hb); clear HB; have HB := n0_; clear n0_; (try clear hb); (try clear hb2); (try clear hk); (try clear hi)) | ((with_reducible refine gate_callee (f := 17) rfl ?_); refine goesL_ (some 5) rfl rfl Try.func17 (by kernel_rfl) rfl #[.int .i64 1] rfl (by (try simp only [List.map_toArray, List.map_cons, List.map_nil]); first | done | rfl | (simp only [List.length_drop, List.length_take]; rfl)) ?_; (with_reducible refine (quernlaw13_reg.calls 1 t209 t210 _ A2.out).mono ?_); rintro e w35 ⟨rfl, hb⟩; refine ⟨_, rfl, ?_⟩; have n0_ := Aside0.mk (below_step (by repeat (first | (with_reducible first | exact HB.out | apply below_alloc | apply pw_below_drewN | apply below_drew1) | exact HB.out)) hb); clear HB; have HB := n0_; clear n0_; (try clear hb); (try clear hb2); (try clear hk); (try clear hi)) | ((with_reducible refine gate_callee (f := 17) rfl ?_); refine goesL_ (some 7) rfl rfl Try.func17 (by kernel_rfl) rfl #[.int .i64 1] rfl (by (try simp only [List.map_toArray, List.map_cons, List.map_nil]); first | done | rfl | (simp only [List.length_drop, List.length_take]; rfl)) ?_; (with_reducible refine (quernlaw13_reg.calls 1 t211 t212 _ A3.out).mono ?_); rintro e w36 ⟨rfl, hb⟩; refine ⟨_, rfl, ?_⟩; have n0_ := Aside0.mk (below_step (by repeat (first | (with_reducible first | exact HB.out | apply below_alloc | apply pw_below_drewN | apply below_drew1) | exact HB.out)) hb); clear HB; have HB := n0_; clear n0_; (try clear hb); (try clear hb2); (try clear hk); (try clear hi)) | ((with_reducible refine gate_callee (f := 17) rfl ?_); refine goesL_ (some 8) rfl rfl Try.func17 (by kernel_rfl) rfl #[.int .i64 0] rfl (by (try simp only [List.map_toArray, List.map_cons, List.map_nil]); first | done | rfl | (simp only [List.length_drop, List.length_take]; rfl)) ?_; (with_reducible refine (quernlaw13_reg.calls 0 t213 t214 _ A4.out).mono ?_); rintro e w37 ⟨rfl, hb⟩; refine ⟨_, rfl, ?_⟩; have n0_ := Aside0.mk (below_step (by repeat (first | (with_reducible first | exact HB.out | apply below_alloc | apply pw_below_drewN | apply below_drew1) | exact HB.out)) hb); clear HB; have HB := n0_; clear n0_; (try clear hb); (try clear hb2); (try clear hk); (try clear hi)) | ((with_reducible refine gate_dst (N := 10) rfl ?_); (try (refine gate_guard (by rfl) ?_; dsimp only)); refine Kd.R_lit k36 _ 36 ?hg (N := 10) ?hd (xs := ([(⟨(⟨t207, t208⟩ : S24), (⟨t209, t210⟩ : S24)⟩ : S36), (⟨(⟨t211, t212⟩ : S24), (⟨t213, t214⟩ : S24)⟩ : S36)] : List (S36))) (inner := [.int .i64 t207, .int .i64 t208, .int .i64 t209, .int .i64 t210, .int .i64 t211, .int .i64 t212, .int .i64 t213, .int .i64 t214]) (ok := fun _ => True) (okp := fun _ => True) ?hr ?hp (fun _ hk => hk) trivial (Below.refl _ _) (Nat.le_refl _) (by simp) ?_; (case hd => rfl); (case hg => rfl); (case hr => first | (go_simp; done) | (go_simp; rfl)); (case hp => exact (Reps.c4 (show Kd.M k36 _ _ _ (⟨(⟨t207, t208⟩ : S24), (⟨t209, t210⟩ : S24)⟩ : S36) [.int .i64 t207, .int .i64 t208, .int .i64 t209, .int .i64 t210] from (k36_mkM _ _ _ (⟨(⟨t207, t208⟩ : S24), (⟨t209, t210⟩ : S24)⟩ : S36) )) (Reps.c4 (show Kd.M k36 _ _ _ (⟨(⟨t211, t212⟩ : S24), (⟨t213, t214⟩ : S24)⟩ : S36) [.int .i64 t211, .int .i64 t212, .int .i64 t213, .int .i64 t214] from (k36_mkM _ _ _ (⟨(⟨t211, t212⟩ : S24), (⟨t213, t214⟩ : S24)⟩ : S36) )) (Reps.none _ _)))); intro v216 w38 ho39 hb hg_ hnew_; clear hg_ hnew_; (first | rw [← Ny215.out] at ho39 | (simp only [Int.reduceToNat] at ho39; rw [← Ny215.out] at ho39)); have n0_ := Aside0.mk (Kd.R_lower ho39 (below_size (by repeat (first | (with_reducible first | exact HB.out | apply below_alloc | apply pw_below_drewN | apply below_drew1) | exact HB.out)))); have n1_ := Aside0.mk (below_step (by repeat (first | (with_reducible first | exact HB.out | apply below_alloc | apply pw_below_drewN | apply below_drew1) | exact HB.out)) hb); clear HB; have HO217 := n0_; have HB := n1_; clear n0_ n1_; clear hb ho39) | ((with_reducible refine gate_callee (f := 17) rfl ?_); refine goesL_ (some 11) rfl rfl Try.func17 (by kernel_rfl) rfl #[.int .i64 9] rfl (by (try simp only [List.map_toArray, List.map_cons, List.map_nil]); first | done | rfl | (simp only [List.length_drop, List.length_take]; rfl)) ?_; (with_reducible refine (quernlaw13_reg.calls 9 t218 t219 _ A5.out).mono ?_); rintro e w40 ⟨rfl, hb⟩; refine ⟨_, rfl, ?_⟩; have n0_ := Aside0.mk (Kd.R_below (by (with_reducible repeat (first | apply Kd.R_alloc | apply Kd.R_drewN | apply Kd.R_drew)); exact HO217.out) hb); have n1_ := Aside0.mk (below_step (by repeat (first | (with_reducible first | exact HB.out | apply below_alloc | apply pw_below_drewN | apply below_drew1) | exact HB.out)) hb); clear HO217; clear HB; have HO217 := n0_; have HB := n1_; clear n0_ n1_; (try clear hb); (try clear hb2); (try clear hk); (try clear hi); obtain ⟨Ao41, co41, eo41⟩ := Kd.R_slice HO217.out; subst eo41) | ((with_reducible refine gate_callee (f := 10) rfl ?_); refine goesL_ (some 12) rfl rfl Try.func10 (by kernel_rfl) rfl #[.slice Ao41 y215.length co41, .agg #[.int .i64 t218, .int .i64 t219]] rfl (by (try simp only [List.map_toArray, List.map_cons, List.map_nil]); first | done | rfl | (simp only [List.length_drop, List.length_take]; rfl)) ?_; (with_reducible refine (moves_Order.calls k _ _ y215 t218 t219 t220 t223 _ ?side1 ?side2 A6.out).mono ?_); (case side1 => repeat (first | exact (Kd.R_reads' HO217.out).2.2 | (with_reducible refine Kd.C_alloc ?_ _) | (with_reducible refine Kd.C_drewN ?_ _) | (with_reducible refine Kd.C_drew ?_))); (case side2 => exact (Kd.R_reads' HO217.out).2.1); rintro e w42 ⟨v221, rfl, ho0, hb⟩; refine ⟨_, rfl, ?_⟩; have n0_ := Aside0.mk (Kd.R_elder' (by (with_reducible repeat (first | apply Kd.R_alloc | apply Kd.R_drewN | apply Kd.R_drew)); exact HO217.out) (Kd.R_base ho0) hb); have n1_ := Aside0.mk (Kd.R_lower (Kd.R_new' ho0 (Kd.R_lt (by (with_reducible repeat (first | apply Kd.R_alloc | apply Kd.R_drewN | apply Kd.R_drew)); exact HO217.out))) (below_size (by repeat (first | (with_reducible first | exact HB.out | apply below_alloc | apply pw_below_drewN | apply below_drew1) | exact HB.out)))); have n2_ := Aside0.mk (below_step (by repeat (first | (with_reducible first | exact HB.out | apply below_alloc | apply pw_below_drewN | apply below_drew1) | exact HB.out)) hb); clear HO217; clear HB; have HO217 := n0_; have HO222 := n1_; have HB := n2_; clear n0_ n1_ n2_; (try clear hb); (try clear hb2); (try clear hk); (try clear hi); (try clear ho0)))
  go_ret
  exact ⟨by first | rfl | (simp [errW_none, errW_some] <;> rfl) | (simp [*, errW_none, errW_some] <;> rfl), by repeat (first | (with_reducible first | exact HB.out | apply below_alloc | apply pw_below_drewN | apply below_drew1) | exact HB.out)⟩

/-! ### quernlaw13_lent: function 9 -/
def quernlaw13_lent.f (l0 : List (S36)) : Option ((List (S36))) := if ([] : List (S36)).length + l0.length < 4398046511104 then ((some (([] : List (S36)) ++ l0 : List (S36))).bind fun y241 => ((some (([(⟨(⟨(-71), 0⟩ : S24), (⟨0, 0⟩ : S24)⟩ : S36), (⟨(⟨(-71), 0⟩ : S24), (⟨0, 0⟩ : S24)⟩ : S36)] : List (S36)) : List (S36))).bind fun y244 => (if y241.length + y244.length < 4398046511104 then (some (y241 ++ y244)) else (none)))) else (none)
set_option maxHeartbeats 8000000 in
set_option maxRecDepth 100000 in
theorem quernlaw13_lent.calls (A0 : Option Addr) (c0 : Nat) (l0 : List (S36)) (r : List (S36)) (w : World) (hr0 : Kd.C k36 w A0 l0.length l0) (hc0 : l0.length ≤ c0) (h : quernlaw13_lent.f l0 = some r) :
  Calls Try.prog 9 #[.slice A0 l0.length c0] w fun e w' => ∃ v0_ : Value, e = .returned (v0_) ∧ Kd.R k36 36 w' w.heap.size (fun _ => True) v0_ r ∧ Below w.heap.size w w' := by
 have hu24 := Try.underlying24
 have hu36 := Try.underlying36
 have HR0 := Aside0.mk hr0
 have HC0 := Aside0.mk hc0
 clear hr0 hc0
 have HB := Aside0.mk (Below.refl w.heap.size w)
 have H : (if ([] : List (S36)).length + l0.length < 4398046511104 then ((some (([] : List (S36)) ++ l0 : List (S36))).bind fun y241 => ((some (([(⟨(⟨(-71), 0⟩ : S24), (⟨0, 0⟩ : S24)⟩ : S36), (⟨(⟨(-71), 0⟩ : S24), (⟨0, 0⟩ : S24)⟩ : S36)] : List (S36)) : List (S36))).bind fun y244 => (if y241.length + y244.length < 4398046511104 then (some (y241 ++ y244)) else (none)))) else (none)) = some r := h
 clear h
 by_cases c2 : ([] : List (S36)).length + l0.length < 4398046511104
 ·rw [if_pos c2] at H
  have LMc2 := Aside0.mk c2
  clear c2
  obtain ⟨y241, hy241⟩ : ∃ y_ : List (S36), y_ = (([] : List (S36)) ++ l0) := ⟨_, rfl⟩
  replace H : ((some (([(⟨(⟨(-71), 0⟩ : S24), (⟨0, 0⟩ : S24)⟩ : S36), (⟨(⟨(-71), 0⟩ : S24), (⟨0, 0⟩ : S24)⟩ : S36)] : List (S36)) : List (S36))).bind fun y244 => (if y241.length + y244.length < 4398046511104 then (some (y241 ++ y244)) else (none))) = some r := by first | (rw [hy241]; with_reducible exact H) | (have H2_ := (Option.bind_some _ _).symm.trans H; rw [hy241]; with_reducible exact H2_) | (have H2_ := (Option.bind_some _ _).symm.trans H; with_reducible exact H2_) | with_reducible exact H | (rw [hy241]; exact H) | exact H
  have Ny241 := Aside0.mk hy241
  clear hy241
  obtain ⟨y244, hy244⟩ : ∃ y_ : List (S36), y_ = (([(⟨(⟨(-71), 0⟩ : S24), (⟨0, 0⟩ : S24)⟩ : S36), (⟨(⟨(-71), 0⟩ : S24), (⟨0, 0⟩ : S24)⟩ : S36)] : List (S36))) := ⟨_, rfl⟩
  replace H : (if y241.length + y244.length < 4398046511104 then (some (y241 ++ y244)) else (none)) = some r := by first | (rw [hy244]; with_reducible exact H) | (have H2_ := (Option.bind_some _ _).symm.trans H; rw [hy244]; with_reducible exact H2_) | (have H2_ := (Option.bind_some _ _).symm.trans H; with_reducible exact H2_) | with_reducible exact H | (rw [hy244]; exact H) | exact H
  have Ny244 := Aside0.mk hy244
  clear hy244
  by_cases c3 : y241.length + y244.length < 4398046511104
  ·rw [if_pos c3] at H
   have LMc3 := Aside0.mk c3
   clear c3
   obtain ⟨y247, hy247⟩ : ∃ y_ : List (S36), y_ = (y241 ++ y244) := ⟨_, rfl⟩
   replace H : (some y247) = some r := by first | (rw [hy247]; with_reducible exact H) | (have H2_ := (Option.bind_some _ _).symm.trans H; rw [hy247]; with_reducible exact H2_) | (have H2_ := (Option.bind_some _ _).symm.trans H; with_reducible exact H2_) | with_reducible exact H | (rw [hy247]; exact H) | exact H
   have Ny247 := Aside0.mk hy247
   clear hy247
   obtain rfl := Option.some.inj H
   go_enter Try.func9, Try.ntmps9
   try go_wp2_with (first | ((with_reducible refine gate_dst (N := 3) rfl ?_); refine box_event ?hg (N := 3) ?hd (cs := #[.int .i64 0, .int .i64 0, .int .i64 0, .int .i64 0]) (t := 36) ?hr ?_; (case hd => rfl); (case hg => rfl); (case hr => first | (go_simp; done) | (go_simp; rfl)); intro gb240 hg w4 hbox hb; have n0_ := Aside0.mk (below_step (by repeat (first | (with_reducible first | exact HB.out | apply below_alloc | apply pw_below_drewN | apply below_drew1) | exact HB.out)) hb); have n1_ := Aside0.mk (hbox); have n2_ := Aside0.mk ((by rw [hg]; exact (below_size (by repeat (first | (with_reducible first | exact HB.out | apply below_alloc | apply pw_below_drewN | apply below_drew1) | exact HB.out))) : w.heap.size ≤ gb240)); have n3_ := Aside0.mk ((by rw [hg]; exact (below_size (by repeat (first | (with_reducible first | exact HB.out | apply below_alloc | apply pw_below_drewN | apply below_drew1) | exact HB.out))) : w.heap.size ≤ gb240)); clear HB; have HB := n0_; have BK240 := n1_; have GW240 := n2_; have GE240 := n3_; clear n0_ n1_ n2_ n3_; clear hb hbox hg; have hcz5_0 : w4.cell? ⟨gb240, 0, none⟩ = some (.int .i64 0) := (blk_cell BK240.out 0).trans rfl; have hcz5_1 : w4.cell? ⟨gb240, 1, none⟩ = some (.int .i64 0) := (blk_cell BK240.out 1).trans rfl; have hcz5_2 : w4.cell? ⟨gb240, 2, none⟩ = some (.int .i64 0) := (blk_cell BK240.out 2).trans rfl; have hcz5_3 : w4.cell? ⟨gb240, 3, none⟩ = some (.int .i64 0) := (blk_cell BK240.out 3).trans rfl; have hfz5_0 := blk_frozen BK240.out 0; have hfz5_1 := blk_frozen BK240.out 1; have hfz5_2 := blk_frozen BK240.out 2; have hfz5_3 := blk_frozen BK240.out 3))
   have n0_ : Aside0 (((((w4.setCell ⟨gb240, 0, none⟩ (.int .i64 (-71))).setCell ⟨gb240, 1, none⟩ (.int .i64 0)).setCell ⟨gb240, 2, none⟩ (.int .i64 0)).setCell ⟨gb240, 3, none⟩ (.int .i64 0)).heap[gb240]? = some (.cells #[.int .i64 (-71), .int .i64 0, .int .i64 0, .int .i64 0] 36 (0, 0))) := ⟨by (with_reducible repeat (first | refine blk_drewN ?_ _ | refine blk_drew ?_ | refine blk_alloc ?_ _)); refine blk_put (cs := #[.int .i64 (-71), .int .i64 0, .int .i64 0, .int .i64 0]) ?_ 3 _ rfl; (with_reducible repeat (first | refine blk_drewN ?_ _ | refine blk_drew ?_ | refine blk_alloc ?_ _)); refine blk_put (cs := #[.int .i64 (-71), .int .i64 0, .int .i64 0, .int .i64 0]) ?_ 2 _ rfl; (with_reducible repeat (first | refine blk_drewN ?_ _ | refine blk_drew ?_ | refine blk_alloc ?_ _)); refine blk_put (cs := #[.int .i64 (-71), .int .i64 0, .int .i64 0, .int .i64 0]) ?_ 1 _ rfl; (with_reducible repeat (first | refine blk_drewN ?_ _ | refine blk_drew ?_ | refine blk_alloc ?_ _)); refine blk_put (cs := #[.int .i64 0, .int .i64 0, .int .i64 0, .int .i64 0]) ?_ 0 _ rfl; (with_reducible repeat (first | refine blk_drewN ?_ _ | refine blk_drew ?_ | refine blk_alloc ?_ _)); exact BK240.out⟩
   have n1_ : Aside0 (Below w.heap.size w ((((w4.setCell ⟨gb240, 0, none⟩ (.int .i64 (-71))).setCell ⟨gb240, 1, none⟩ (.int .i64 0)).setCell ⟨gb240, 2, none⟩ (.int .i64 0)).setCell ⟨gb240, 3, none⟩ (.int .i64 0))) := ⟨by repeat (first | (with_reducible first | exact HB.out | apply below_alloc | apply pw_below_drewN | apply below_drew1 | refine below_set ?_ GE240.out) | exact HB.out)⟩
   (try clear BK240)
   (try clear HB)
   generalize ((((w4.setCell ⟨gb240, 0, none⟩ (.int .i64 (-71))).setCell ⟨gb240, 1, none⟩ (.int .i64 0)).setCell ⟨gb240, 2, none⟩ (.int .i64 0)).setCell ⟨gb240, 3, none⟩ (.int .i64 0)) = w6 at n0_ n1_ ⊢
   have BK240 := n0_
   have HB := n1_
   clear n0_ n1_
   have n0_ := Aside0.mk (blk_drew BK240.out)
   have n1_ := Aside0.mk (below_drew1 HB.out)
   clear BK240
   clear HB
   have BK240 := n0_
   have HB := n1_
   clear n0_ n1_
   refine start_ (n := 7) (S := fun w' => w'.cell? ⟨gb240, 0, none⟩ = some (.int .i64 (-71)) ∧ w'.cell? ⟨gb240, 1, none⟩ = some (.int .i64 0) ∧ w'.cell? ⟨gb240, 2, none⟩ = some (.int .i64 0) ∧ w'.cell? ⟨gb240, 3, none⟩ = some (.int .i64 0)) (ds := []) #[false, false, false, false, false, false, false] (by kernel_rfl) rfl rfl ⟨(blk_cell BK240.out 0).trans rfl, (blk_cell BK240.out 1).trans rfl, (blk_cell BK240.out 2).trans rfl, (blk_cell BK240.out 3).trans rfl⟩ (fun hHeld => ?_)
   generalize w6.drew = w7 at BK240 HB hHeld ⊢
   refine pure_ (i := 0) (N := some 6) (v := ?_) (a' := ?_) #[true, false, false, false, false, false, false] rfl rfl (by kernel_rfl) (fun _ _ _ h => h) (Or.inl ⟨by rfl, ?_⟩) ?_ ?_
   rotate_left
   ·intro w'
    go_simp
    with_reducible rfl
   rotate_left
   ·simp only [Act.put, List.setIfInBounds_toArray, List.set_cons_zero, List.set_cons_succ, i64_w, i32_w]
    rfl
   refine take_ (i := 2) (N := some 8) (v := ?_) (a' := ?_) #[true, false, true, false, false, false, false] rfl rfl (by kernel_rfl) (fun _ _ _ h => h) (Or.inl ⟨by rfl, ?_⟩) hHeld ?_ ?_
   rotate_left
   ·rintro w' ⟨s0, s1, s2, s3⟩
    go_simp
    with_reducible rfl
   rotate_left
   ·simp only [Act.put, List.setIfInBounds_toArray, List.set_cons_zero, List.set_cons_succ, i64_w, i32_w]
    rfl
   refine take_ (i := 3) (N := some 9) (v := ?_) (a' := ?_) #[true, false, true, true, false, false, false] rfl rfl (by kernel_rfl) (fun _ _ _ h => h) (Or.inl ⟨by rfl, ?_⟩) hHeld ?_ ?_
   rotate_left
   ·rintro w' ⟨s0, s1, s2, s3⟩
    go_simp
    with_reducible rfl
   rotate_left
   ·simp only [Act.put, List.setIfInBounds_toArray, List.set_cons_zero, List.set_cons_succ, i64_w, i32_w]
    rfl
   refine join_ (σ := Value × Value) 2 #[true, true, true, true, true, false, false] (fun s_ => [(7, s_.1), (10, s_.2)]) (fun s_ w' => (w'.cell? ⟨gb240, 0, none⟩ = some (.int .i64 (-71)) ∧ w'.cell? ⟨gb240, 1, none⟩ = some (.int .i64 0) ∧ w'.cell? ⟨gb240, 2, none⟩ = some (.int .i64 0) ∧ w'.cell? ⟨gb240, 3, none⟩ = some (.int .i64 0)) ∧ (Kd.R k36 36 w' w.heap.size (fun k_ => some k_ ≠ (s_.2 : Value).ownBlock ∧ k_ ≠ gb240) s_.1 y241) ∧ (Kd.R k36 36 w' w.heap.size (fun k_ => some k_ ≠ (s_.1 : Value).ownBlock ∧ k_ ≠ gb240) s_.2 y244) ∧ (w'.heap[gb240]? = some (.cells #[.int .i64 (-71), .int .i64 0, .int .i64 0, .int .i64 0] 36 (0, 0))) ∧ (Below w.heap.size w w')) ?_ ?_
   rotate_left
   ·intro hCont
    refine two_ (i := 1) (j := 4) (Ni := some 7) (Nj := some 10) #[true, true, true, true, false, false, false] #[true, false, true, true, true, false, false] rfl rfl rfl rfl (by kernel_rfl) (by decide) (by decide) (fun K hK => ?_) (fun K hK => ?_)
    ·skip
     refine Kd.R_append_rows_step k36 (w0 := w) w.heap.size (by rfl) (.const (.slice none 0 0)) (.tmp 6) 22 36 (.agg #[(.int .i64 0), (.int .i64 0), (.int .i64 0), (.int .i64 0)]) 32 rfl Try.underlying22 info36 rfl (by decide) (by omega) (.slice none 0 0) ([] : List (S36)) l0 _ _ _ (fun k_ => k_ ≠ gb240) (fun _ => False) rfl rfl ?aO ?aR (fun _ _ h => h) (fun _ h => h.elim) ?aF ?aB ?aS ?aL ?_
     (case aR => repeat (first | exact (Kd.C_below HR0.out HB.out) | (with_reducible refine Kd.C_alloc ?_ _) | (with_reducible refine Kd.C_drewN ?_ _) | (with_reducible refine Kd.C_drew ?_)))
     (case aB => exact (by repeat (first | (with_reducible first | exact HB.out | apply below_alloc | apply pw_below_drewN | apply below_drew1 | refine below_set ?_ GE240.out) | exact HB.out)))
     (case aF => exact (fun k_ hk => Kd.freshB (g := gb240) (o := .cells #[.int .i64 (-71), .int .i64 0, .int .i64 0, .int .i64 0] 36 (0, 0)) (by (with_reducible repeat (first | refine blk_drewN ?_ _ | refine blk_drew ?_ | refine blk_alloc ?_ _)); exact BK240.out) k_ hk))
     (case aO => exact ((Kd.R_nil _ _ _ _ (fun k_ => k_ ≠ gb240))))
     (case aS => exact (below_size (by repeat (first | (with_reducible first | exact HB.out | apply below_alloc | apply pw_below_drewN | apply below_drew1 | refine below_set ?_ GE240.out) | exact HB.out))))
     (case aL => have := LMc2.out; omega)
     intro v242 w8 ho hb hg hat
     rw [← Ny241.out] at ho
     have n0_ := Aside0.mk (blk_grown (g := gb240) (o := .cells #[.int .i64 (-71), .int .i64 0, .int .i64 0, .int .i64 0] 36 (0, 0)) (by (with_reducible repeat (first | refine blk_drewN ?_ _ | refine blk_drew ?_ | refine blk_alloc ?_ _)); exact BK240.out) hg (by simp [Value.ownBlock]))
     have n1_ := Aside0.mk (hb)
     have n2_ := Aside0.mk (ho)
     clear BK240
     clear HB
     have BK240 := n0_
     have HB := n1_
     have HO243 := n2_
     clear n0_ n1_ n2_
     clear ho hb hg hat
     refine hK.out _ _ ⟨(blk_cell BK240.out 0).trans rfl, (blk_cell BK240.out 1).trans rfl, (blk_cell BK240.out 2).trans rfl, (blk_cell BK240.out 3).trans rfl⟩ (fun hHeld => ?_)
     clear hK K
     refine norm_ (a' := ?_) ?_ ?_
     rotate_left
     ·show Act.put _ (some 7) _ = _
      simp only [Act.put, List.setIfInBounds_toArray, List.set_cons_zero, List.set_cons_succ, i64_w, i32_w]
      rfl
     refine one_ (i := 4) (N := some 10) #[true, true, true, true, true, false, false] rfl rfl (by kernel_rfl) (by decide) (fun K hK => ?_)
     refine Kd.R_lit_step k36 _ 36 ?hg (N := 10) ?hd (xs := ([(⟨(⟨(-71), 0⟩ : S24), (⟨0, 0⟩ : S24)⟩ : S36), (⟨(⟨(-71), 0⟩ : S24), (⟨0, 0⟩ : S24)⟩ : S36)] : List (S36))) (inner := [.int .i64 (-71), .int .i64 0, .int .i64 0, .int .i64 0, .int .i64 (-71), .int .i64 0, .int .i64 0, .int .i64 0]) (ok := fun _ => True) (okp := fun _ => True) ?hr ?hp (fun _ hk => hk) trivial (Below.refl _ _) (Nat.le_refl _) (by simp) ?_; (case hd => rfl); (case hg => rfl); (case hr => first | (go_simp; done) | (go_simp; rfl)); (case hp => exact (Reps.c4 (show Kd.M k36 _ _ _ (⟨(⟨(-71), 0⟩ : S24), (⟨0, 0⟩ : S24)⟩ : S36) [.int .i64 (-71), .int .i64 0, .int .i64 0, .int .i64 0] from (k36_mkM _ _ _ (⟨(⟨(-71), 0⟩ : S24), (⟨0, 0⟩ : S24)⟩ : S36) )) (Reps.c4 (show Kd.M k36 _ _ _ (⟨(⟨(-71), 0⟩ : S24), (⟨0, 0⟩ : S24)⟩ : S36) [.int .i64 (-71), .int .i64 0, .int .i64 0, .int .i64 0] from (k36_mkM _ _ _ (⟨(⟨(-71), 0⟩ : S24), (⟨0, 0⟩ : S24)⟩ : S36) )) (Reps.none _ _))))
     intro v245 w9 ho10 hb hg_ hnew_
     clear hg_ hnew_
     (first | rw [← Ny244.out] at ho10 | (simp only [Int.reduceToNat] at ho10; rw [← Ny244.out] at ho10))
     have n0_ := Aside0.mk (Kd.R_elder' (by (with_reducible repeat (first | apply Kd.R_alloc | apply Kd.R_drewN | apply Kd.R_drew)); exact HO243.out) (Kd.R_base ho10) hb)
     have n1_ := Aside0.mk (Kd.R_lower (Kd.R_newB (Kd.R_new' ho10 (Kd.R_lt (by (with_reducible repeat (first | apply Kd.R_alloc | apply Kd.R_drewN | apply Kd.R_drew)); exact HO243.out))) (g := gb240) (o := .cells #[.int .i64 (-71), .int .i64 0, .int .i64 0, .int .i64 0] 36 (0, 0)) (by (with_reducible repeat (first | refine blk_drewN ?_ _ | refine blk_drew ?_ | refine blk_alloc ?_ _)); exact BK240.out)) (below_size (by repeat (first | (with_reducible first | exact HB.out | apply below_alloc | apply pw_below_drewN | apply below_drew1 | refine below_set ?_ GE240.out) | exact HB.out))))
     have n2_ := Aside0.mk (blk_below (g := gb240) (o := .cells #[.int .i64 (-71), .int .i64 0, .int .i64 0, .int .i64 0] 36 (0, 0)) (by (with_reducible repeat (first | refine blk_drewN ?_ _ | refine blk_drew ?_ | refine blk_alloc ?_ _)); exact BK240.out) hb)
     have n3_ := Aside0.mk (below_step (by repeat (first | (with_reducible first | exact HB.out | apply below_alloc | apply pw_below_drewN | apply below_drew1 | refine below_set ?_ GE240.out) | exact HB.out)) hb)
     clear HO243
     clear BK240
     clear HB
     have HO243 := n0_
     have HO246 := n1_
     have BK240 := n2_
     have HB := n3_
     clear n0_ n1_ n2_ n3_
     clear hb ho10
     refine hK.out _ _ ⟨(blk_cell BK240.out 0).trans rfl, (blk_cell BK240.out 1).trans rfl, (blk_cell BK240.out 2).trans rfl, (blk_cell BK240.out 3).trans rfl⟩ (fun hHeld => ?_)
     clear hK K
     refine norm_ (a' := ?_) ?_ ?_
     rotate_left
     ·show Act.put _ (some 10) _ = _
      simp only [Act.put, List.setIfInBounds_toArray, List.set_cons_zero, List.set_cons_succ, i64_w, i32_w]
      rfl
     exact norm_ (by simp only [putAll, Act.put, List.setIfInBounds_toArray, List.set_cons_zero, List.set_cons_succ]) (hCont (v242, v245) _ ⟨hHeld, (by (with_reducible repeat (first | apply Kd.R_alloc | apply Kd.R_drewN | apply Kd.R_drew)); exact Kd.R_mono HO243.out (fun _ hk => ⟨hk.2, hk.1⟩)), (by (with_reducible repeat (first | apply Kd.R_alloc | apply Kd.R_drewN | apply Kd.R_drew)); exact Kd.R_mono HO246.out (fun _ hk => ⟨hk.1.2, hk.2⟩)), (by (with_reducible repeat (first | refine blk_drewN ?_ _ | refine blk_drew ?_ | refine blk_alloc ?_ _)); exact BK240.out), (by repeat (first | (with_reducible first | exact HB.out | apply below_alloc | apply pw_below_drewN | apply below_drew1 | refine below_set ?_ GE240.out) | exact HB.out))⟩)
    ·skip
     refine Kd.R_lit_step k36 _ 36 ?hg (N := 10) ?hd (xs := ([(⟨(⟨(-71), 0⟩ : S24), (⟨0, 0⟩ : S24)⟩ : S36), (⟨(⟨(-71), 0⟩ : S24), (⟨0, 0⟩ : S24)⟩ : S36)] : List (S36))) (inner := [.int .i64 (-71), .int .i64 0, .int .i64 0, .int .i64 0, .int .i64 (-71), .int .i64 0, .int .i64 0, .int .i64 0]) (ok := fun _ => True) (okp := fun _ => True) ?hr ?hp (fun _ hk => hk) trivial (Below.refl _ _) (Nat.le_refl _) (by simp) ?_; (case hd => rfl); (case hg => rfl); (case hr => first | (go_simp; done) | (go_simp; rfl)); (case hp => exact (Reps.c4 (show Kd.M k36 _ _ _ (⟨(⟨(-71), 0⟩ : S24), (⟨0, 0⟩ : S24)⟩ : S36) [.int .i64 (-71), .int .i64 0, .int .i64 0, .int .i64 0] from (k36_mkM _ _ _ (⟨(⟨(-71), 0⟩ : S24), (⟨0, 0⟩ : S24)⟩ : S36) )) (Reps.c4 (show Kd.M k36 _ _ _ (⟨(⟨(-71), 0⟩ : S24), (⟨0, 0⟩ : S24)⟩ : S36) [.int .i64 (-71), .int .i64 0, .int .i64 0, .int .i64 0] from (k36_mkM _ _ _ (⟨(⟨(-71), 0⟩ : S24), (⟨0, 0⟩ : S24)⟩ : S36) )) (Reps.none _ _))))
     intro v245 w8 ho9 hb hg_ hnew_
     clear hg_ hnew_
     (first | rw [← Ny244.out] at ho9 | (simp only [Int.reduceToNat] at ho9; rw [← Ny244.out] at ho9))
     have n0_ := Aside0.mk (Kd.R_lower (Kd.R_newB ho9 (g := gb240) (o := .cells #[.int .i64 (-71), .int .i64 0, .int .i64 0, .int .i64 0] 36 (0, 0)) (by (with_reducible repeat (first | refine blk_drewN ?_ _ | refine blk_drew ?_ | refine blk_alloc ?_ _)); exact BK240.out)) (below_size (by repeat (first | (with_reducible first | exact HB.out | apply below_alloc | apply pw_below_drewN | apply below_drew1 | refine below_set ?_ GE240.out) | exact HB.out))))
     have n1_ := Aside0.mk (blk_below (g := gb240) (o := .cells #[.int .i64 (-71), .int .i64 0, .int .i64 0, .int .i64 0] 36 (0, 0)) (by (with_reducible repeat (first | refine blk_drewN ?_ _ | refine blk_drew ?_ | refine blk_alloc ?_ _)); exact BK240.out) hb)
     have n2_ := Aside0.mk (below_step (by repeat (first | (with_reducible first | exact HB.out | apply below_alloc | apply pw_below_drewN | apply below_drew1 | refine below_set ?_ GE240.out) | exact HB.out)) hb)
     clear BK240
     clear HB
     have HO246 := n0_
     have BK240 := n1_
     have HB := n2_
     clear n0_ n1_ n2_
     clear hb ho9
     refine hK.out _ _ ⟨(blk_cell BK240.out 0).trans rfl, (blk_cell BK240.out 1).trans rfl, (blk_cell BK240.out 2).trans rfl, (blk_cell BK240.out 3).trans rfl⟩ (fun hHeld => ?_)
     clear hK K
     refine norm_ (a' := ?_) ?_ ?_
     rotate_left
     ·show Act.put _ (some 10) _ = _
      simp only [Act.put, List.setIfInBounds_toArray, List.set_cons_zero, List.set_cons_succ, i64_w, i32_w]
      rfl
     refine one_ (i := 1) (N := some 7) #[true, true, true, true, true, false, false] rfl rfl (by kernel_rfl) (by decide) (fun K hK => ?_)
     refine Kd.R_append_rows_step k36 (w0 := w) w.heap.size (by rfl) (.const (.slice none 0 0)) (.tmp 6) 22 36 (.agg #[(.int .i64 0), (.int .i64 0), (.int .i64 0), (.int .i64 0)]) 32 rfl Try.underlying22 info36 rfl (by decide) (by omega) (.slice none 0 0) ([] : List (S36)) l0 _ _ _ (fun k_ => some k_ ≠ (v245 : Value).ownBlock ∧ k_ ≠ gb240) (fun _ => False) rfl rfl ?aO ?aR (fun _ _ h => h) (fun _ h => h.elim) ?aF ?aB ?aS ?aL ?_
     (case aR => repeat (first | exact (Kd.C_below HR0.out HB.out) | (with_reducible refine Kd.C_alloc ?_ _) | (with_reducible refine Kd.C_drewN ?_ _) | (with_reducible refine Kd.C_drew ?_)))
     (case aB => exact (by repeat (first | (with_reducible first | exact HB.out | apply below_alloc | apply pw_below_drewN | apply below_drew1 | refine below_set ?_ GE240.out) | exact HB.out)))
     (case aF => exact (fun k_ hk => ⟨Kd.fresh' (Kd.R_lt (by (with_reducible repeat (first | apply Kd.R_alloc | apply Kd.R_drewN | apply Kd.R_drew)); exact HO246.out)) k_ hk, Kd.freshB (g := gb240) (o := .cells #[.int .i64 (-71), .int .i64 0, .int .i64 0, .int .i64 0] 36 (0, 0)) (by (with_reducible repeat (first | refine blk_drewN ?_ _ | refine blk_drew ?_ | refine blk_alloc ?_ _)); exact BK240.out) k_ hk⟩))
     (case aO => exact ((Kd.R_nil _ _ _ _ (fun k_ => some k_ ≠ (v245 : Value).ownBlock ∧ k_ ≠ gb240))))
     (case aS => exact (below_size (by repeat (first | (with_reducible first | exact HB.out | apply below_alloc | apply pw_below_drewN | apply below_drew1 | refine below_set ?_ GE240.out) | exact HB.out))))
     (case aL => have := LMc2.out; omega)
     intro v242 w10 ho hb hg hat
     rw [← Ny241.out] at ho
     have n0_ := Aside0.mk (blk_grown (g := gb240) (o := .cells #[.int .i64 (-71), .int .i64 0, .int .i64 0, .int .i64 0] 36 (0, 0)) (by (with_reducible repeat (first | refine blk_drewN ?_ _ | refine blk_drew ?_ | refine blk_alloc ?_ _)); exact BK240.out) hg (by simp [Value.ownBlock]))
     have n1_ := Aside0.mk (Kd.R_after (Kd.R_apart_nil (by (with_reducible repeat (first | apply Kd.R_alloc | apply Kd.R_drewN | apply Kd.R_drew)); exact HO246.out)) hg hat)
     have n2_ := Aside0.mk (hb)
     have n3_ := Aside0.mk (ho)
     clear BK240
     clear HO246
     clear HB
     have BK240 := n0_
     have HO246 := n1_
     have HB := n2_
     have HO243 := n3_
     clear n0_ n1_ n2_ n3_
     clear ho hb hg hat
     refine hK.out _ _ ⟨(blk_cell BK240.out 0).trans rfl, (blk_cell BK240.out 1).trans rfl, (blk_cell BK240.out 2).trans rfl, (blk_cell BK240.out 3).trans rfl⟩ (fun hHeld => ?_)
     clear hK K
     refine norm_ (a' := ?_) ?_ ?_
     rotate_left
     ·show Act.put _ (some 7) _ = _
      simp only [Act.put, List.setIfInBounds_toArray, List.set_cons_zero, List.set_cons_succ, i64_w, i32_w]
      rfl
     exact norm_ (by simp only [putAll, Act.put, List.setIfInBounds_toArray, List.set_cons_zero, List.set_cons_succ]) (hCont (v242, v245) _ ⟨hHeld, (by (with_reducible repeat (first | apply Kd.R_alloc | apply Kd.R_drewN | apply Kd.R_drew)); exact HO243.out), (by (with_reducible repeat (first | apply Kd.R_alloc | apply Kd.R_drewN | apply Kd.R_drew)); exact Kd.R_mono HO246.out (fun _ hk => ⟨hk.2, hk.1.2⟩)), (by (with_reducible repeat (first | refine blk_drewN ?_ _ | refine blk_drew ?_ | refine blk_alloc ?_ _)); exact BK240.out), (by repeat (first | (with_reducible first | exact HB.out | apply below_alloc | apply pw_below_drewN | apply below_drew1 | refine below_set ?_ GE240.out) | exact HB.out))⟩)
   rintro ⟨v242, v245⟩ w11 ⟨hS_, h0_, h1_, h2_, h3_⟩
   have n0_ : Aside0 (Kd.R k36 36 w11 w.heap.size (fun k_ => some k_ ≠ (v245 : Value).ownBlock ∧ k_ ≠ gb240) v242 y241) := ⟨h0_⟩
   have n1_ : Aside0 (Kd.R k36 36 w11 w.heap.size (fun k_ => some k_ ≠ (v242 : Value).ownBlock ∧ k_ ≠ gb240) v245 y244) := ⟨h1_⟩
   have n2_ : Aside0 (w11.heap[gb240]? = some (.cells #[.int .i64 (-71), .int .i64 0, .int .i64 0, .int .i64 0] 36 (0, 0))) := ⟨h2_⟩
   have n3_ : Aside0 (Below w.heap.size w w11) := ⟨h3_⟩
   clear BK240
   clear HB
   clear h0_ h1_ h2_ h3_
   have HO243 := n0_
   have HO246 := n1_
   have BK240 := n2_
   have HB := n3_
   clear n0_ n1_ n2_ n3_
   have hHeld : w11.cell? ⟨gb240, 0, none⟩ = some (.int .i64 (-71)) ∧ w11.cell? ⟨gb240, 1, none⟩ = some (.int .i64 0) ∧ w11.cell? ⟨gb240, 2, none⟩ = some (.int .i64 0) ∧ w11.cell? ⟨gb240, 3, none⟩ = some (.int .i64 0) := hS_
   obtain ⟨Ao13, co13, eo13⟩ := Kd.R_slice HO246.out
   (first | subst eo13 | (injection eo13 with f1_ f2_ f3_; have f4_ := f1_.symm; have f5_ := f3_.symm; clear f1_ f2_ f3_; subst f4_; subst f5_))
   refine norm_ (a' := ?_) ?_ ?_
   rotate_left
   ·simp only [putAll, Act.put, List.setIfInBounds_toArray, List.set_cons_zero, List.set_cons_succ]
    rfl
   refine one_ (i := 5) (N := some 11) #[true, true, true, true, true, true, false] rfl rfl (by kernel_rfl) (by decide) (fun K hK => ?_)
   refine Kd.R_append_rows_step k36 (w0 := w) w.heap.size (by rfl) (.tmp 7) (.tmp 10) 22 36 (.agg #[(.int .i64 0), (.int .i64 0), (.int .i64 0), (.int .i64 0)]) 32 rfl Try.underlying22 info36 rfl (by decide) (by omega) v242 y241 y244 _ _ _ (fun k_ => some k_ ≠ (.slice Ao13 y244.length co13 : Value).ownBlock ∧ k_ ≠ gb240) (fun _ => False) rfl rfl ?aO ?aR (fun _ _ h => h) (fun _ h => h.elim) ?aF ?aB ?aS ?aL ?_
   (case aR => repeat (first | exact (Kd.R_reads' HO246.out).2.2 | (with_reducible refine Kd.C_alloc ?_ _) | (with_reducible refine Kd.C_drewN ?_ _) | (with_reducible refine Kd.C_drew ?_)))
   (case aB => exact (by repeat (first | (with_reducible first | exact HB.out | apply below_alloc | apply pw_below_drewN | apply below_drew1 | refine below_set ?_ GE240.out) | exact HB.out)))
   (case aF => exact (fun k_ hk => ⟨Kd.fresh' (Kd.R_lt (by (with_reducible repeat (first | apply Kd.R_alloc | apply Kd.R_drewN | apply Kd.R_drew)); exact HO246.out)) k_ hk, Kd.freshB (g := gb240) (o := .cells #[.int .i64 (-71), .int .i64 0, .int .i64 0, .int .i64 0] 36 (0, 0)) (by (with_reducible repeat (first | refine blk_drewN ?_ _ | refine blk_drew ?_ | refine blk_alloc ?_ _)); exact BK240.out) k_ hk⟩))
   (case aO => exact (by (with_reducible repeat (first | apply Kd.R_alloc | apply Kd.R_drewN | apply Kd.R_drew)); exact HO243.out))
   (case aS => exact (below_size (by repeat (first | (with_reducible first | exact HB.out | apply below_alloc | apply pw_below_drewN | apply below_drew1 | refine below_set ?_ GE240.out) | exact HB.out))))
   (case aL => have := LMc3.out; omega)
   intro v248 w12 ho hb hg hat
   rw [← Ny247.out] at ho
   have n0_ := Aside0.mk (blk_grown (g := gb240) (o := .cells #[.int .i64 (-71), .int .i64 0, .int .i64 0, .int .i64 0] 36 (0, 0)) (by (with_reducible repeat (first | refine blk_drewN ?_ _ | refine blk_drew ?_ | refine blk_alloc ?_ _)); exact BK240.out) hg (Kd.R_away HO243.out (fun _ hk => hk.2)))
   have n1_ := Aside0.mk (Kd.R_after (ok := (fun k_ => k_ ≠ gb240)) (by (with_reducible repeat (first | apply Kd.R_alloc | apply Kd.R_drewN | apply Kd.R_drew)); exact Kd.R_mono HO246.out (fun _ hk => ⟨hk.2, hk.1⟩)) hg hat)
   have n2_ := Aside0.mk (hb)
   have n3_ := Aside0.mk (ho)
   clear BK240
   clear HO246
   clear HB
   clear HO243
   have BK240 := n0_
   have HO246 := n1_
   have HB := n2_
   have HO249 := n3_
   clear n0_ n1_ n2_ n3_
   clear ho hb hg hat
   refine hK.out _ _ ⟨(blk_cell BK240.out 0).trans rfl, (blk_cell BK240.out 1).trans rfl, (blk_cell BK240.out 2).trans rfl, (blk_cell BK240.out 3).trans rfl⟩ (fun hHeld => ?_)
   clear hK K
   refine norm_ (a' := ?_) ?_ ?_
   rotate_left
   ·show Act.put _ (some 11) _ = _
    simp only [Act.put, List.setIfInBounds_toArray, List.set_cons_zero, List.set_cons_succ, i64_w, i32_w]
    rfl
   refine pure_ (i := 6) (N := some 2) (v := ?_) (a' := ?_) #[true, true, true, true, true, true, true] rfl rfl (by kernel_rfl) (fun _ _ _ h => h) (Or.inl ⟨by rfl, ?_⟩) ?_ ?_
   rotate_left
   ·intro w'
    go_simp
    with_reducible rfl
   rotate_left
   ·simp only [Act.put, List.setIfInBounds_toArray, List.set_cons_zero, List.set_cons_succ, i64_w, i32_w]
    rfl
   refine done_ (by kernel_rfl) ?_
   try go_wp2
   go_ret
   exact ⟨_, by first | rfl | (simp [errW_none, errW_some] <;> rfl) | (simp [*, errW_none, errW_some] <;> rfl), by (with_reducible repeat (first | apply Kd.R_alloc | apply Kd.R_drewN | apply Kd.R_drew)); exact Kd.R_mono HO249.out (fun _ hk => trivial), by repeat (first | (with_reducible first | exact HB.out | apply below_alloc | apply pw_below_drewN | apply below_drew1 | refine below_set ?_ GE240.out) | exact HB.out)⟩
  ·rw [if_neg c3] at H
   exact absurd H (by simp)
 ·rw [if_neg c2] at H
  exact absurd H (by simp)

end Go.Proofs.Ytameoapnhmoleaa.PP
