/- LexBack: tokens that are written down (chapter 2; plain). -/
import Derived.Test.YteenkeccpfgffaaBK
import Derived.Test.YteenkeccpfgffaaBG
set_option linter.unusedVariables false
set_option linter.unusedSimpArgs false
namespace Go.Proofs.Yteenkeccpfgffaa
open Go.RowKit Go.Proofs.YteenkeccpfgffaaW.PrintWords Go.Proofs.YteenkeccpfgffaaW.PrintLast Go.Proofs.YteenkeccpfgffaaW.PrintMore

/-- u is how token x is written. -/
def GoodTok (x : Tok) (u : List Int) : Prop := u ≠ [] ∧ byteRange u ∧ skipL false u = (0, true) ∧ tokS u = (x, 0, u.length) ∧ u.length ≤ 22
def Written (T : List Int) (W : List Tok) : Prop := byteRange T ∧ ∀ s, BHead s → lex 0 (T ++ s) = (W ++ (lex T.length s).1, (lex T.length s).2)
theorem written_nil : Written [] [] := ⟨by intro i; simp [rd], fun s _ => by simp⟩
theorem gap_range {g : List Int} (h : ∀ c ∈ g, 0 ≤ c ∧ c ≤ 255) : byteRange g := by
  intro i
  unfold rd
  rw [List.getD_eq_getElem?_getD]
  rcases Nat.lt_or_ge i.toNat g.length with h2 | h2
  · rw [List.getElem?_eq_getElem h2]
    exact h _ (List.getElem_mem h2)
  · rw [List.getElem?_eq_none h2]
    decide
theorem written_step {T g u : List Int} {W : List Tok} {x : Tok} (h : Written T W) (hg : Blank g) (hh : BHead g) (hne : g ≠ []) (hr : ∀ c ∈ g, 0 ≤ c ∧ c ≤ 255) (hu : GoodTok x u) :
    Written (T ++ g ++ u) (W ++ [x.shift ((T.length + g.length : Nat) : Int)]) := by
  obtain ⟨u1, u2, u3, u4, _⟩ := hu
  refine ⟨(h.1.append (gap_range hr)).append u2, fun s hs => ?_⟩
  have e : T ++ g ++ u ++ s = T ++ (g ++ (u.take u.length ++ s)) := by rw [List.take_length]; simp
  rw [e, h.2 _ (hh.append hne _), lx_step hg u1 u2 u3 u4 (hs.after _ _)]
  simp [List.length_append, Nat.add_assoc]
theorem written_end {T s : List Int} {W : List Tok} (h : Written T W) (hs : BHead s) (he : skipL false s = (s.length, true)) : lexAll (T ++ s) = (W, 0, 0) := by
  rw [lexAll_lex, h.2 s hs, lx_end he (Nat.le_refl _)]
  simp
def endI : List Int := [32, 47, 47, 32, 116, 104, 101, 32, 101, 110, 100, 44, 32, 119, 105, 116, 104, 111, 117, 116, 32, 97, 32, 108, 105, 110, 101, 39, 115]
theorem endI_head : BHead endI := .inr (show cls 32 = 1 by decide)
theorem endI_skip : skipL false endI = (endI.length, true) := by decide
theorem endI_range : ∀ c ∈ endI, 0 ≤ c ∧ c ≤ 255 := by decide

/-! ### How a number, a name is written -/
theorem numFrom_snoc : ∀ (xs : List Int) (v d : Int), numFrom v (xs ++ [d]) = (numFrom v xs).bind fun r => if (9223372036854775807 - (d - 48)) / 10 < r then none else some (10 * r + (d - 48))
  | [], v, d => by simp [numFrom]
  | c :: xs, v, d => by
    rw [List.cons_append, numFrom, numFrom]
    split
    · rfl
    · exact numFrom_snoc xs _ d
theorem decL_digits : ∀ (m n : Nat), n ≤ m → ∀ c ∈ decL n, 48 ≤ c ∧ c ≤ 57 := by
  intro m
  induction m with
  | zero => intro n hn c hc; rw [decL, if_pos (by omega)] at hc; simp at hc; omega
  | succ m ih =>
    intro n hn c hc
    rw [decL] at hc
    split at hc
    · simp at hc; omega
    · rcases List.mem_append.1 hc with h | h
      · exact ih _ (by omega) c h
      · simp at h; omega
theorem num_decL : ∀ (m n : Nat), n ≤ m → n ≤ 9223372036854775807 → numFrom 0 (decL n) = some (n : Int) := by
  intro m
  induction m with
  | zero =>
    intro n hn h
    obtain rfl : n = 0 := by omega
    rw [decL, if_pos (by omega), numFrom, if_neg (by omega), numFrom]
    simp
  | succ m ih =>
    intro n hn h
    rw [decL]
    split
    · rw [numFrom, if_neg (by omega), numFrom]
      congr 1
      omega
    · rw [numFrom_snoc, ih _ (by omega) (by omega), Option.bind_some, if_neg (by omega)]
      congr 1
      omega
theorem decL_head (n : Nat) : 1 < (decL n).length → rd (decL n) 0 ≠ 48 := by
  suffices ∀ m n : Nat, n ≤ m → 10 ≤ n → rd (decL n) 0 ≠ 48 by
    intro h
    by_cases h10 : n < 10
    · rw [decL, if_pos h10] at h
      simp at h
    · exact this n n (Nat.le_refl _) (by omega)
  intro m
  induction m with
  | zero => intro n h1 h2; omega
  | succ m ih =>
    intro n h1 h2
    rw [decL, if_neg (by omega)]
    have e : rd (decL (n / 10) ++ [48 + ((n % 10 : Nat) : Int)]) 0 = rd (decL (n / 10)) 0 := by
      have := decL_pos (n / 10)
      unfold rd
      simp only [Int.toNat_zero, List.getD_eq_getElem?_getD]
      rw [List.getElem?_append_left this]
    rw [e]
    by_cases h10 : n / 10 < 10
    · rw [decL, if_pos h10]
      simp only [rd, Int.toNat_zero, List.getD_cons_zero]
      omega
    · exact ih _ (by omega) (by omega)
theorem decL_range (n : Nat) : byteRange (decL n) := gap_range (fun c hc => by have := decL_digits n n (Nat.le_refl _) c hc; omega)
theorem decL_le (n : Nat) (h : n ≤ 9223372036854775807) : (decL n).length ≤ 19 := decL_len n 18 (by omega)
theorem strL_all {b : Bool} {l : List Int} (h : ∀ c ∈ l, strOk b c = true) : strL b l = l.length := by
  unfold strL
  induction l with
  | nil => rfl
  | cons c r ih =>
    rw [List.takeWhile_cons_of_pos (h c (List.mem_cons_self ..)), List.length_cons, ih (fun x hx => h x (List.mem_cons_of_mem _ hx)), List.length_cons]
theorem cls_digit {c : Int} (h : 48 ≤ c ∧ c ≤ 57) : cls c = 2 := by
  unfold cls
  rw [if_neg (by omega), if_pos h]
theorem skip_stop0 {c : Int} {r : List Int} (h1 : cls c ≠ 1) (h2 : c ≠ 47) : skipL false (c :: r) = (0, true) := by
  rw [skipL, if_neg h1, if_neg (fun h => h2 h.1)]
theorem decL_cons (n : Nat) : ∃ c r, decL n = c :: r ∧ 48 ≤ c ∧ c ≤ 57 := by
  have h := decL_pos n
  have hd := decL_digits n n (Nat.le_refl _)
  cases hl : decL n with
  | nil => rw [hl] at h; simp at h
  | cons c r => exact ⟨c, r, rfl, hd c (by rw [hl]; exact List.mem_cons_self ..)⟩
theorem good_num (n : Nat) (hn : n ≤ 9223372036854775807) : GoodTok ⟨2, 0, (n : Int), ⟨#[]⟩⟩ (decL n) := by
  obtain ⟨c, r, hc, h0, h1⟩ := decL_cons n
  have hs : strL false (decL n) = (decL n).length := strL_all (fun d hd => by
    have := cls_digit (decL_digits n n (Nat.le_refl _) d hd)
    simp [strOk, this])
  refine ⟨by rw [hc]; simp, decL_range n, ?_, ?_, by have := decL_le n hn; omega⟩
  · rw [hc]
    exact skip_stop0 (by rw [cls_digit ⟨h0, h1⟩]; decide) (by omega)
  · have hr : rd (decL n) ((0 : Nat) : Int) = c := by rw [hc]; rfl
    unfold tokS tokAt
    rw [hr, cls_digit ⟨h0, h1⟩, if_neg (by decide), if_pos rfl]
    unfold numberAt
    rw [List.drop_zero, hs, List.take_length, num_decL n n (Nat.le_refl _) hn, if_neg (fun h => decL_head n h.1 (by simpa using h.2))]
    simp [numAns]
theorem cls_letter {c : Int} (h : c = 95 ∨ (97 ≤ c ∧ c ≤ 122) ∨ (65 ≤ c ∧ c ≤ 90)) : cls c = 3 := by unfold cls; rw [if_pos h]
theorem wordFrom_none {s : ByteArray} : ∀ (L : List ByteArray) (k : Nat), (∀ x ∈ L, s.data.toList ≠ x.data.toList) → wordFrom s L k = 1
  | [], _, _ => rfl
  | x :: r, k, h => by
    rw [wordFrom, if_neg (h x (List.mem_cons_self ..))]
    exact wordFrom_none r (k + 1) (fun y hy => h y (List.mem_cons_of_mem _ hy))
/-- A name that begins with two bytes with which no word begins. -/
theorem good_name {c d : Int} {r : List Int} (hc : c = 95 ∨ (97 ≤ c ∧ c ≤ 122) ∨ (65 ≤ c ∧ c ≤ 90)) (hd : cls d = 3 ∨ cls d = 2) (hr : ∀ x ∈ r, cls x = 3 ∨ cls x = 2) (hb : byteRange (c :: d :: r)) (hl : r.length ≤ 20)
    (hw : ∀ x ∈ wordsL, ¬ (x.data.toList.head? = some (UInt8.ofNat c.toNat) ∧ x.data.toList.tail.head? = some (UInt8.ofNat d.toNat))) : GoodTok ⟨1, 0, 0, strOfNums (c :: d :: r)⟩ (c :: d :: r) := by
  have h3 := cls_letter hc
  have hs : strL true (c :: d :: r) = (c :: d :: r).length := strL_all (fun x hx => by
    rcases List.mem_cons.1 hx with rfl | hx
    · simp [strOk, h3]
    · rcases List.mem_cons.1 hx with rfl | hx
      · rcases hd with h | h <;> simp [strOk, h]
      · rcases hr x hx with h | h <;> simp [strOk, h])
  have h47 : c ≠ 47 := by omega
  refine ⟨by simp, hb, skip_stop0 (by rw [h3]; decide) h47, ?_, by simp; omega⟩
  have hk : wordK (strOfNums (c :: d :: r)) = 1 := wordFrom_none _ _ (fun x hx he => hw x hx (by
    rw [← he]
    simp [strOfNums]))
  unfold tokS tokAt
  rw [show rd (c :: d :: r) ((0 : Nat) : Int) = c from rfl, h3, if_pos rfl]
  unfold nameAt
  rw [List.drop_zero, hs, List.take_length, if_neg (by simp; omega)]
  unfold nameTok
  rw [if_pos hk]
  simp
theorem digit_cases (n : Nat) : ∀ x ∈ decL n, cls x = 3 ∨ cls x = 2 := fun x hx => .inr (cls_digit (decL_digits n n (Nat.le_refl _) x hx))
theorem v_word {d : Int} (h : 48 ≤ d ∧ d ≤ 57) : ∀ x ∈ wordsL, ¬ (x.data.toList.head? = some (UInt8.ofNat (118 : Int).toNat) ∧ x.data.toList.tail.head? = some (UInt8.ofNat d.toNat)) := by
  have : d = 48 ∨ d = 49 ∨ d = 50 ∨ d = 51 ∨ d = 52 ∨ d = 53 ∨ d = 54 ∨ d = 55 ∨ d = 56 ∨ d = 57 := by omega
  rcases this with rfl | rfl | rfl | rfl | rfl | rfl | rfl | rfl | rfl | rfl <;> decide
theorem u_word : ∀ x ∈ wordsL, ¬ (x.data.toList.head? = some (UInt8.ofNat (95 : Int).toNat) ∧ x.data.toList.tail.head? = some (UInt8.ofNat (65 : Int).toNat)) := by decide
theorem good_v (n : Nat) (hn : n ≤ 9223372036854775807) : GoodTok ⟨1, 0, 0, strOfNums (118 :: decL n)⟩ (118 :: decL n) := by
  obtain ⟨c, r, hc, h0, h1⟩ := decL_cons n
  have hl := decL_le n hn
  have hb := decL_range n
  have hx := digit_cases n
  rw [hc] at hl hb hx ⊢
  exact good_name (by omega) (.inr (cls_digit ⟨h0, h1⟩)) (fun x h => hx x (List.mem_cons_of_mem _ h)) ((byteRange_one (c := 118) (by omega)).append hb) (by simp at hl; omega) (v_word ⟨h0, h1⟩)
theorem good_u (n : Nat) (hn : n ≤ 9223372036854775807) : GoodTok ⟨1, 0, 0, strOfNums (95 :: 65 :: 118 :: decL n)⟩ (95 :: 65 :: 118 :: decL n) := by
  have hl := decL_le n hn
  exact good_name (by omega) (.inl (by decide)) (fun x h => by
    rcases List.mem_cons.1 h with rfl | h
    · exact .inl (by decide)
    · exact digit_cases n x h) ((byteRange_one (c := 95) (by omega)).append ((byteRange_one (c := 65) (by omega)).append ((byteRange_one (c := 118) (by omega)).append (decL_range n)))) (by simp; omega) u_word
/-! ### The words and the signs -/
def okFix (k : Nat) : Bool :=
  (skipL false (bytesOf (spB k))).1 == 0 && (skipL false (bytesOf (spB k))).2 && (tokS (bytesOf (spB k))).1.kind == (k : Int) && (tokS (bytesOf (spB k))).1.at_ == 0 && (tokS (bytesOf (spB k))).1.value == 0 && (tokS (bytesOf (spB k))).1.name.data.toList == [] &&
    (tokS (bytesOf (spB k))).2.1 == 0 && (tokS (bytesOf (spB k))).2.2 == (bytesOf (spB k)).length && decide ((bytesOf (spB k)).length ≤ 22) && !(bytesOf (spB k)).isEmpty
theorem okFix_all : ((List.range 69).all fun k => decide (k < 10) || (decide (28 ≤ k) && decide (k < 40)) || okFix k) = true := by decide +kernel
theorem good_fixed : ∀ k : Nat, k < 69 → (10 ≤ k ∧ k < 28) ∨ (40 ≤ k ∧ k < 69) → skipL false (bytesOf (spB k)) = (0, true) ∧ tokS (bytesOf (spB k)) = (⟨k, 0, 0, ⟨#[]⟩⟩, 0, (bytesOf (spB k)).length) ∧ (bytesOf (spB k)).length ≤ 22 ∧ bytesOf (spB k) ≠ [] := by
  intro k hk hc
  have h := List.all_eq_true.1 okFix_all k (List.mem_range.2 hk)
  have h1 : okFix k = true := by
    have a1 : decide (k < 10) = false := decide_eq_false (by omega)
    have a2 : (decide (28 ≤ k) && decide (k < 40)) = false := by
      by_cases h28 : 28 ≤ k
      · rw [decide_eq_false (show ¬ k < 40 by omega), Bool.and_false]
      · rw [decide_eq_false h28, Bool.false_and]
    rwa [a1, a2, Bool.false_or, Bool.false_or] at h
  clear h
  unfold okFix at h1
  generalize bytesOf (spB k) = u at *
  simp only [Bool.and_eq_true, beq_iff_eq, decide_eq_true_eq, Bool.not_eq_true', List.isEmpty_eq_false_iff] at h1
  obtain ⟨⟨⟨⟨⟨⟨⟨⟨⟨a1, a2⟩, a3⟩, a4⟩, a5⟩, a6⟩, a7⟩, a8⟩, a9⟩, a10⟩ := h1
  refine ⟨Prod.ext a1 a2, ?_, a9, a10⟩
  generalize tokS u = r at *
  obtain ⟨⟨x1, x2, x3, x4⟩, x5, x6⟩ := r
  simp only at a3 a4 a5 a6 a7 a8
  subst a3; subst a4; subst a5; subst a7; subst a8
  have : x4 = ⟨#[]⟩ := ByteArray.ext (Array.toList_inj.1 a6)
  rw [this]
theorem bytes_range (s : ByteArray) : byteRange (bytesOf s) := by
  intro i
  rw [rd_bytesOf]
  exact bt_range s i
theorem good_sp (k : Int) (h : (10 ≤ k ∧ k < 28) ∨ (40 ≤ k ∧ k < 69)) : GoodTok ⟨k, 0, 0, ⟨#[]⟩⟩ (bytesOf (spB k)) := by
  obtain ⟨n, rfl⟩ : ∃ n : Nat, k = (n : Int) := ⟨k.toNat, by omega⟩
  obtain ⟨h1, h2, h3, h4⟩ := good_fixed n (by omega) (by omega)
  exact ⟨h4, bytes_range _, h1, h2, h3⟩
end Go.Proofs.Yteenkeccpfgffaa
