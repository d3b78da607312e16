/- The reference's token (quernref2), a sign (chapter 2). -/
import Derived.Test.YteenkeccpfgffaaT
set_option linter.unusedVariables false
set_option linter.unusedSimpArgs false
namespace Go.Proofs.Yteenkeccpfgffaa
open Go.RowKit Go.Proofs.YteenkeccpfgffaaW.PrintWords Go.Proofs.YteenkeccpfgffaaW.PrintLast Go.Proofs.YteenkeccpfgffaaW.PrintMore

def bytesOK (xs : List Int) : Prop := ∀ c ∈ xs, 0 ≤ c ∧ c ≤ 255
theorem u8_inj {a b : Int} (ha : 0 ≤ a ∧ a ≤ 255) (hb : 0 ≤ b ∧ b ≤ 255) (h : UInt8.ofNat a.toNat = UInt8.ofNat b.toNat) : a = b := by
  have h2 := congrArg UInt8.toNat h
  simp only [UInt8.toNat_ofNat'] at h2
  omega
theorem strOfNums_inj {xs ys : List Int} (hx : bytesOK xs) (hy : bytesOK ys) (h : strOfNums xs = strOfNums ys) : xs = ys := by
  unfold strOfNums at h
  have h2 : (xs.map fun n => UInt8.ofNat n.toNat) = (ys.map fun n => UInt8.ofNat n.toNat) := by
    have := congrArg (fun s : ByteArray => s.data.toList) h
    simpa using this
  clear h
  induction xs generalizing ys with
  | nil => cases ys with
    | nil => rfl
    | cons y r => simp at h2
  | cons x r ih => cases ys with
    | nil => simp at h2
    | cons y s =>
      simp only [List.map_cons, List.cons.injEq] at h2
      rw [u8_inj (hx x (by simp)) (hy y (by simp)) h2.1, ih (fun c hc => hx c (by simp [hc])) (fun c hc => hy c (by simp [hc])) h2.2]
theorem bytesOK_drop {l : List Int} (h : byteRange l) (p m : Nat) : bytesOK ((l.drop p).take m) := by
  intro c hc
  have hc2 := List.mem_of_mem_drop (List.mem_of_mem_take hc)
  obtain ⟨i, hi, rfl⟩ := List.mem_iff_getElem.1 hc2
  have := h i
  unfold rd at this
  rw [Int.toNat_natCast, List.getD_eq_getElem?_getD, List.getElem?_eq_getElem hi] at this
  exact this
def sI (k : Nat) : List Int := signI.getD k []
theorem ss_eq (k : Nat) (hk : k < 29) : ss k = strOfNums (sI k) ∧ bytesOK (sI k) ∧ (ss k).size = (sI k).length ∧ (sI k).length ≤ 2 ∧ 1 ≤ (sI k).length := by
  have h : ∀ k, k < 29 → ss k = strOfNums (sI k) ∧ (∀ c ∈ sI k, 0 ≤ c ∧ c ≤ 255) ∧ (ss k).size = (sI k).length ∧ (sI k).length ≤ 2 ∧ 1 ≤ (sI k).length := by
    intro k hk
    have : k = 0 ∨ k = 1 ∨ k = 2 ∨ k = 3 ∨ k = 4 ∨ k = 5 ∨ k = 6 ∨ k = 7 ∨ k = 8 ∨ k = 9 ∨ k = 10 ∨ k = 11 ∨ k = 12 ∨ k = 13 ∨ k = 14 ∨ k = 15 ∨ k = 16 ∨ k = 17 ∨ k = 18 ∨ k = 19 ∨ k = 20 ∨ k = 21 ∨ k = 22 ∨ k = 23 ∨ k = 24 ∨ k = 25 ∨ k = 26 ∨ k = 27 ∨ k = 28 := by omega
    rcases this with rfl | rfl | rfl | rfl | rfl | rfl | rfl | rfl | rfl | rfl | rfl | rfl | rfl | rfl | rfl | rfl | rfl | rfl | rfl | rfl | rfl | rfl | rfl | rfl | rfl | rfl | rfl | rfl | rfl
    all_goals exact ⟨rfl, by decide, rfl, by decide, by decide⟩
  exact h k hk
theorem sI_drop {k : Nat} (hk : k < 29) : signI.drop k = sI k :: signI.drop (k + 1) := by
  have hl : k < signI.length := by simpa [signI] using hk
  rw [List.drop_eq_getElem_cons hl]
  simp [sI, List.getD_eq_getElem?_getD, List.getElem?_eq_getElem hl]
def BestIs (t : List Int) (k b : Nat) (kd : Int) : Prop := bestI t (signI.drop k) k b kd = bestI t signI 0 0 0
theorem best_short {t : List Int} {k b : Nat} {kd : Int} (h : BestIs t k b kd) (hk : k < 29) (hb : ¬ b < (ss k).size) : BestIs t (k + 1) b kd := by
  unfold BestIs at h ⊢
  rw [sI_drop hk, bestI, if_neg (fun h2 => hb (by rw [(ss_eq k hk).2.2.1]; exact h2.1))] at h
  exact h
theorem best_out {l : List Int} {p k b : Nat} {kd : Int} (h : BestIs (l.drop p) k b kd) (hk : k < 29) (hb : ¬ p + (ss k).size ≤ l.length) : BestIs (l.drop p) (k + 1) b kd := by
  unfold BestIs at h ⊢
  rw [sI_drop hk, bestI, if_neg (fun h2 => hb (by
    have h3 := congrArg List.length h2.2
    rw [List.length_take, List.length_drop] at h3
    have h4 := ss_eq k hk
    rw [h4.2.2.1]
    omega))] at h
  exact h
theorem best_miss {l : List Int} {p k b : Nat} {kd : Int} (h : BestIs (l.drop p) k b kd) (hk : k < 29) (hb : ((strOfNums ((l.drop p).take (ss k).size)).toList == (ss k).toList) = false) : BestIs (l.drop p) (k + 1) b kd := by
  unfold BestIs at h ⊢
  obtain ⟨h1, h2, h3, _⟩ := ss_eq k hk
  rw [sI_drop hk, bestI, if_neg (fun h4 => by
    rw [h3, h4.2, h1] at hb
    simp at hb)] at h
  exact h
theorem best_hit {l : List Int} {p k b : Nat} {kd : Int} (hr : byteRange l) (h : BestIs (l.drop p) k b kd) (hk : k < 29) (hlt : b < (ss k).size) (hb : ((strOfNums ((l.drop p).take (ss k).size)).toList == (ss k).toList) = true) : BestIs (l.drop p) (k + 1) (ss k).size (40 + k) := by
  unfold BestIs at h ⊢
  obtain ⟨h1, h2, h3, _⟩ := ss_eq k hk
  have h4 : (l.drop p).take (sI k).length = sI k := by
    rw [beq_iff_eq, ByteArray.toList_eq, ByteArray.toList_eq] at hb
    rw [← h3]
    refine strOfNums_inj (bytesOK_drop hr _ _) h2 ?_
    rw [← h1]
    have e1 : (strOfNums ((l.drop p).take (ss k).size)).data = (ss k).data := by
      have := congrArg List.toArray hb
      simpa using this
    cases hS : strOfNums ((l.drop p).take (ss k).size)
    cases hT : ss k
    rw [hS, hT] at e1
    simp at e1
    rw [e1]
  rw [sI_drop hk, bestI, if_pos ⟨by rw [← h3]; exact hlt, h4⟩, ← h3] at h
  exact h
theorem twoK_eq {c d : Int} (hc : 0 ≤ c ∧ c ≤ 255) (hd : 0 ≤ d ∧ d ≤ 255) : twoK (strOfNums [c, d]) = twoI c d := by
  have hu : ∀ (a : Int) (n : Nat), 0 ≤ a ∧ a ≤ 255 → n < 256 → ((UInt8.ofNat a.toNat = UInt8.ofNat n) ↔ a = n) := by
    intro a n ha hn
    constructor
    · intro h
      have h2 := congrArg UInt8.toNat h
      simp only [UInt8.toNat_ofNat'] at h2
      omega
    · rintro rfl; simp
  simp only [twoK, twoL, strOfNums, List.map_cons, List.map_nil, twoFrom, twoI, List.cons.injEq, and_true]
  have e : ∀ (a : Int), 0 ≤ a ∧ a ≤ 255 → ((UInt8.ofNat a.toNat = 61) ↔ a = 61) ∧ ((UInt8.ofNat a.toNat = 33) ↔ a = 33) ∧ ((UInt8.ofNat a.toNat = 60) ↔ a = 60) ∧ ((UInt8.ofNat a.toNat = 62) ↔ a = 62) ∧ ((UInt8.ofNat a.toNat = 38) ↔ a = 38) ∧ ((UInt8.ofNat a.toNat = 94) ↔ a = 94) ∧ ((UInt8.ofNat a.toNat = 124) ↔ a = 124) := fun a ha =>
    ⟨hu a 61 ha (by omega), hu a 33 ha (by omega), hu a 60 ha (by omega), hu a 62 ha (by omega), hu a 38 ha (by omega), hu a 94 ha (by omega), hu a 124 ha (by omega)⟩
  obtain ⟨c1, c2, c3, c4, c5, c6, c7⟩ := e c hc
  obtain ⟨d1, d2, d3, d4, d5, d6, d7⟩ := e d hd
  simp only [c1, c2, c3, c4, c5, c6, c7, d1, d2, d3, d4, d5, d6, d7]
end Go.Proofs.Yteenkeccpfgffaa
