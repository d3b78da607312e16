/- MovesOrder, plain: what its printed function answers (chapter 13). -/
import Derived.Test.YtameoapnhmoleaaU
import Derived.Test.YtameoapnhmoleaaPC
set_option linter.unusedVariables false
set_option linter.unusedSimpArgs false
namespace Go.Proofs.Ytameoapnhmoleaa
open Go.RowKit Go.Proofs.YtameoapnhmoleaaW.PrintWords Go.Proofs.YtameoapnhmoleaaW.PrintLast Go.Proofs.YtameoapnhmoleaaW.PrintMore
open PP

theorem movesOrder_ev (l : List Mv) (t : S24) : Ev (fun k => quernlaw13_MovesOrder.f k l t.f0 t.f1) true := by
  obtain ⟨K1, h1⟩ := alive_ev
  by_cases hl : l.length ≤ 300
  · obtain ⟨o, ⟨K2, h2⟩, -, h4⟩ := rorder_ev l t (by omega)
    obtain ⟨r, K3, h3⟩ := stays_ev l (by omega)
    have ho : o.length ≤ 1000000 := by
      by_cases hz : refuseK l t = 0
      · have := (h4 hz).2; omega
      · obtain ⟨o', ⟨K5, h5⟩, h6, -⟩ := rorder_ev l t (by omega)
        have e5 := h5 (K5 + K2) (by omega)
        have e6 := h2 (K5 + K2) (by omega)
        simp only at e5 e6
        rw [e5] at e6
        injection e6 with e6
        injection e6 with e6 _
        rw [← e6, h6 hz]
        simp
    obtain ⟨K4, h5⟩ := same_ev o ho
    refine ⟨K1 + K2 + K3 + K4 + 1, fun k hk => ?_⟩
    obtain ⟨k, rfl⟩ : ∃ m, k = m + 1 := ⟨k - 1, by omega⟩
    have e1 := h1 (k + 1) (by omega)
    have e2 := h2 k (by omega)
    have e3 := h3 k (by omega)
    have e4 := h5 k (by omega)
    simp only at e1 e2 e3 e4 ⊢
    rw [quernlaw13_MovesOrder.f, e1, Option.bind_some, if_pos rfl, quernlaw13_MovesOrder.j0, if_neg (by simp; omega), lent_f l (by omega), Option.bind_some, if_pos (by omega), if_pos (by simp; omega), Int.toNat_natCast, List.take_left, order_f (by omega), e2, Option.bind_some, e3, Option.bind_some, Option.bind_some, if_pos rfl, if_pos rfl, e4, Option.bind_some]
  · refine ⟨K1 + 1, fun k hk => ?_⟩
    obtain ⟨k, rfl⟩ : ∃ m, k = m + 1 := ⟨k - 1, by omega⟩
    have e1 := h1 (k + 1) (by omega)
    simp only at e1 ⊢
    rw [quernlaw13_MovesOrder.f, e1, Option.bind_some, if_pos rfl, quernlaw13_MovesOrder.j0, if_pos (by simp; omega)]
theorem movesOrder_any (A : Option Addr) (n c : Nat) (l : List Mv) (t0 t1 : Int) (w : World) (hC : Kd.C k36 w A n l) (hnc : n ≤ c) :
    Calls Try.prog 3 #[.slice A n c, .agg #[.int .i64 t0, .int .i64 t1]] w fun e w' => e = .returned (.bool true) ∧ Below w.heap.size w w' := by
  obtain rfl := hC.1
  obtain ⟨k, hk⟩ := (movesOrder_ev l ⟨t0, t1⟩).rounds
  exact quernlaw13_MovesOrder.calls k A c l t0 t1 true w hC hnc hk
end Go.Proofs.Ytameoapnhmoleaa
