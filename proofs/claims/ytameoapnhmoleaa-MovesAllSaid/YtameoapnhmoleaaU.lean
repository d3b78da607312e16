/- What the laws' helpers answer, plain (chapter 13). -/
import Derived.Test.YtameoapnhmoleaaPA
set_option linter.unusedVariables false
set_option linter.unusedSimpArgs false
namespace Go.Proofs.Ytameoapnhmoleaa
open Go.RowKit Go.Proofs.YtameoapnhmoleaaW.PrintWords Go.Proofs.YtameoapnhmoleaaW.PrintLast Go.Proofs.YtameoapnhmoleaaW.PrintMore
open PP

theorem samel_ev (a : List Mv) (ha : a.length ≤ 1000000) : ∀ (d i : Nat), i + d = a.length → Ev (fun k => quernlaw13_sameMoves.l0 k a a (i : Int)) true
  | 0, i, h => Ev.step (fun k => by rw [quernlaw13_sameMoves.l0, if_neg (by omega)]) (Ev.now true)
  | d + 1, i, h => by
    refine Ev.step (fun k => ?_) (samel_ev a ha d (i + 1) (by omega))
    rw [quernlaw13_sameMoves.l0, if_pos (by omega), if_pos (by omega), if_pos (by omega), if_neg (by simp), wrap_nat i (by omega)]
theorem same_ev (a : List Mv) (ha : a.length ≤ 1000000) : Ev (fun k => quernlaw13_sameMoves.f k a a) true := by
  obtain ⟨K, h⟩ := samel_ev a ha a.length 0 (by omega)
  refine ⟨K, fun k hk => ?_⟩
  have e := h k hk
  simp only at e ⊢
  rw [quernlaw13_sameMoves.f, if_pos rfl]
  exact e
def mark : Mv := ⟨⟨-71, 0⟩, ⟨0, 0⟩⟩
theorem lent_f (l : List Mv) (hl : l.length ≤ 1000000) : quernlaw13_lent.f l = some (l ++ [mark, mark]) := by
  unfold quernlaw13_lent.f
  rw [if_pos (by simp; omega), Option.bind_some, Option.bind_some, if_pos (by simp; omega)]
  rfl
theorem order_f {k : Nat} {l : List Mv} {a b : Int} (hl : l.length ≤ 1000) : moves_Order.f k l a b = quernref13_Order.f k l a b := by
  unfold moves_Order.f
  rw [if_pos hl]
def rg (n : Int) : S24 := ⟨1, n⟩
def live0 : List Mv := [⟨rg 0, rg 1⟩, ⟨rg 1, rg 0⟩]
theorem live_ends : Ends (rg 9) (filtL live0) [⟨rg 9, rg 1⟩, ⟨rg 1, rg 0⟩, ⟨rg 0, rg 9⟩] := by
  have e : filtL live0 = [⟨rg 0, rg 1⟩, ⟨rg 1, rg 0⟩] := rfl
  rw [e]
  refine Ends.brk [⟨rg 1, rg 0⟩] ⟨rg 0, rg 1⟩ _ (by decide) ?_
  refine Ends.put [⟨rg 0, rg 9⟩] [] ⟨rg 1, rg 0⟩ _ (by decide) (by decide) ?_
  refine Ends.put [] [] ⟨rg 0, rg 9⟩ _ (by decide) (by decide) ?_
  exact Ends.nil
theorem reg_f (n : Int) : quernlaw13_reg.f n = some (1, n) := rfl
theorem alive_ev : Ev (fun k => quernlaw13_alive.f k) true := by
  obtain ⟨o, ⟨K1, h1⟩, -, h2⟩ := rorder_ev live0 (rg 9) (by decide)
  have hr : refuseK live0 (rg 9) = 0 := by decide
  obtain rfl := (h2 hr).1.det live_ends
  obtain ⟨K2, h3⟩ := same_ev [⟨rg 9, rg 1⟩, ⟨rg 1, rg 0⟩, ⟨rg 0, rg 9⟩] (by simp)
  refine ⟨K1 + K2, fun k hk => ?_⟩
  have e1 := h1 k (by omega)
  have e2 := h3 k (by omega)
  simp only at e1 e2 ⊢
  rw [hr] at e1
  unfold quernlaw13_alive.f
  simp only [reg_f, Option.bind_some]
  rw [order_f (by simp)]
  rw [show quernref13_Order.f k [⟨⟨1, 0⟩, ⟨1, 1⟩⟩, ⟨⟨1, 1⟩, ⟨1, 0⟩⟩] 1 9 = some ([⟨rg 9, rg 1⟩, ⟨rg 1, rg 0⟩, ⟨rg 0, rg 9⟩], 0) from e1, Option.bind_some, if_pos rfl]
  rw [show quernlaw13_sameMoves.f k [⟨rg 9, rg 1⟩, ⟨rg 1, rg 0⟩, ⟨rg 0, rg 9⟩] [⟨⟨1, 9⟩, ⟨1, 1⟩⟩, ⟨⟨1, 1⟩, ⟨1, 0⟩⟩, ⟨⟨1, 0⟩, ⟨1, 9⟩⟩] = some true from e2, Option.bind_some]
end Go.Proofs.Ytameoapnhmoleaa
