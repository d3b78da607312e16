/- The reference's token (quernref2), a sign: the walk (chapter 2). -/
import Derived.Test.YteenkeccpfgffaaU
set_option linter.unusedVariables false
set_option linter.unusedSimpArgs false
namespace Go.Proofs.Yteenkeccpfgffaa
open Go.RowKit Go.Proofs.YteenkeccpfgffaaW.PrintWords Go.Proofs.YteenkeccpfgffaaW.PrintLast Go.Proofs.YteenkeccpfgffaaW.PrintMore

def bestTok (p : Nat) (r : Nat × Int) : Tok × Int × Nat := if r.1 = 0 then (Tok.nil, 20, p) else (⟨r.2, p, 0, ⟨#[]⟩⟩, 0, p + r.1)
set_option maxRecDepth 100000 in
set_option maxHeartbeats 4000000 in
theorem ref_sign (A : Option Addr) (n c p : Nat) (l : List Int) (w : World) (x : Tok) (err : Int) (q : Nat) (hp : p < n) (hnc : n ≤ c) (hnb : n ≤ 3000000000000) (hr : ReadsInt w .u8 A n l) (hb : byteRange l) (h2 : cls (rd l p) ≠ 2) (h3 : cls (rd l p) ≠ 3) (h : bestTok p (bestI (l.drop p) signI 0 0 0) = (x, err, q)) :
    Calls Try.prog 30 #[.slice A n c, .int .i64 (p : Int)] w fun e w' => RefPost w w' x err q e := by
  obtain ⟨ad, hA, hcell⟩ := hr.at_ (p : Int) (by omega) (by omega)
  obtain rfl := hA
  rw [Int.toNat_natCast] at hcell
  have hbk := hb p
  have hn := hr.2.1
  have hcell2 := (World.grownBy_alloc w (.cells #[.int .i64 0, .int .i64 0, .int .i64 0, .string ⟨#[]⟩] 33) none).cell hcell (by simp)
  have h2b : (cls (rd l p) == 2) = false := by simpa using h2
  have h3b : (cls (rd l p) == 3) = false := by simpa using h3
  have HR := Lib.hid hr
  have HBB := Lib.hid hb
  have hl := hr.1
  have HT := Lib.hid h
  clear hr hb h2 h3 h
  generalize rd l p = cv at *
  go_enter Try.func30, Try.ntmps30
  go_wp2_with (first | (go_at_call 36; refine (letter_any _ _).mono ?_; rintro e w' ⟨rfl, rfl⟩) | (go_at_call 39; refine (digit_any _ _).mono ?_; rintro e w' ⟨rfl, rfl⟩) | (go_at_call 41; refine (signs_any _).mono ?_; rintro e w' ⟨rfl, hb1⟩; have hst := signs_store w'; have hsz := signsV_size; have hR := below_row (heap_alloc_new w _) hb1; have t0 := row_cell hR; have HB1 := Lib.hid (below_then ((Below.refl _ _).alloc (Nat.le_refl _) _) (by simp) hb1); have hlt1 := (Array.getElem?_eq_some_iff.1 hR).1; have hne1 : w.heap.size ≠ w'.heap.size := Nat.ne_of_lt hlt1; have HR2 := Lib.hid hR; clear hR hb1))
  clear hst
  go_loopw [15, 16, 18] (fun b kd i wr => ∃ (k bb : Nat) (kk : Int), k ≤ 29 ∧ bb ≤ 2 ∧ i = .int .i64 k ∧ b = .int .i64 bb ∧ kd = .int .i64 kk ∧ Hid (BestIs (l.drop p) k bb kk) ∧ ∃ q, wr = (w'.alloc (.cells signsV 66)).drewN q) (fun _ _ i _ => 29 - (intOf i).toNat)
  case atStart => exact ⟨0, 0, 0, by omega, by omega, rfl, rfl, rfl, Lib.hid rfl, 0, rfl⟩
  case round =>
    obtain ⟨k, bb, kk, hk, hbb, rfl, rfl, rfl, HK, qq, rfl⟩ := hrel
    by_cases hlt : k < 29
    · have hwk : (w'.alloc (.cells signsV 66)).cell? ⟨w'.heap.size, k, none⟩ = some (.string (ss k)) := by
        rw [cell_of_row _ _ _ _ _ _ (heap_alloc_new w' _)]
        exact signsV_get k hlt
      have hsz2 : (ss k).size ≤ 2 := by have := ss_eq k hlt; omega
      have hsz1 : 1 ≤ (ss k).size := by have := ss_eq k hlt; omega
      have hw1 : IntKind.i64.wrap ((p : Int) + ((ss k).size : Int)) = (p : Int) + ((ss k).size : Int) := IntWalk.i64_in _ (by omega)
      have hw2 : (0 : Int) ≤ (p : Int) + ((ss k).size : Int) := by omega
      by_cases hb1 : bb < (ss k).size
      · by_cases hb2 : p + (ss k).size ≤ n
        · obtain ⟨A', hsl, hrd⟩ := mid_cut (some ad) n c p (ss k).size l hl hb2 hnc
          have hx : ∀ j, ReadsInt ((w'.alloc (.cells signsV 66)).drewN j) .u8 (some ad) n l := fun j => reads_heap (reads_alloc (HR.out.below HB1.out) _) rfl
          have hcv : ∀ j, (convert 22 9 (.slice A' (ss k).size (c - p))).run Try.prog ((w'.alloc (.cells signsV 66)).drewN j) = .ok (.string (strOfNums ((l.drop p).take (ss k).size))) ((w'.alloc (.cells signsV 66)).drewN j) := fun j => string_of_reads (P := Try.prog) (c := c - p) Try.underlying22 Try.underlying5 Try.underlying9 (hrd _ (hx j))
          clear hrd hx
          cases hq : ((strOfNums ((l.drop p).take (ss k).size)).toList == (ss k).toList)
          · have HN := Lib.hid (best_miss HK.out hlt hq)
            generalize strOfNums ((l.drop p).take (ss k).size) = s at *
            generalize ss k = sk at *
            have g0 : decide ((bb : Int) < (sk.size : Int)) = true := decide_eq_true (by omega)
            have g1 : decide (bb < sk.size) = true := decide_eq_true hb1
            have g2 : decide ((p : Int) + (sk.size : Int) ≤ (n : Int)) = true := decide_eq_true (by omega)
            go_wp2
            go_quiet (fail)
            clear hw1 hw2
            go_wp2
            go_roundw
            case rel => exact ⟨k + 1, bb, kk, by omega, by omega, by go_num, rfl, rfl, HN, _, rfl⟩
            case measure => simp [intOf]; omega
          · have HN := Lib.hid (best_hit HBB.out HK.out hlt hb1 hq)
            generalize strOfNums ((l.drop p).take (ss k).size) = s at *
            generalize ss k = sk at *
            have g0 : decide ((bb : Int) < (sk.size : Int)) = true := decide_eq_true (by omega)
            have g1 : decide (bb < sk.size) = true := decide_eq_true hb1
            have g2 : decide ((p : Int) + (sk.size : Int) ≤ (n : Int)) = true := decide_eq_true (by omega)
            go_wp2
            go_quiet (fail)
            clear hw1 hw2
            go_wp2
            go_roundw
            case rel => exact ⟨k + 1, sk.size, 40 + (k : Int), by omega, by omega, by go_num, rfl, rfl, HN, _, rfl⟩
            case measure => simp [intOf]; omega
        · have HN := Lib.hid (best_out HK.out hlt (by rw [hl]; exact hb2))
          generalize ss k = sk at *
          have g0 : decide ((bb : Int) < (sk.size : Int)) = true := decide_eq_true (by omega)
          have g1 : decide (bb < sk.size) = true := decide_eq_true hb1
          have g2 : decide ((p : Int) + (sk.size : Int) ≤ (n : Int)) = false := decide_eq_false (by omega)
          go_wp2
          go_quiet (fail)
          clear hw1 hw2
          go_wp2
          go_roundw
          case rel => exact ⟨k + 1, bb, kk, by omega, by omega, by go_num, rfl, rfl, HN, _, rfl⟩
          case measure => simp [intOf]; omega
      · have HN := Lib.hid (best_short HK.out hlt hb1)
        generalize ss k = sk at *
        have g0 : decide ((bb : Int) < (sk.size : Int)) = false := decide_eq_false (by omega)
        have g1 : decide (bb < sk.size) = false := decide_eq_false hb1
        go_wp2
        go_quiet (fail)
        clear hw1 hw2
        go_wp2
        go_roundw
        case rel => exact ⟨k + 1, bb, kk, by omega, by omega, by go_num, rfl, rfl, HN, _, rfl⟩
        case measure => simp [intOf]; omega
    · obtain rfl : k = 29 := by omega
      have hT : bestTok p (bb, kk) = (x, err, q) := by
        rw [← HT.out, ← HK.out]
        rfl
      unfold bestTok at hT
      by_cases hb0 : bb = 0
      · subst hb0
        rw [if_pos rfl] at hT
        obtain ⟨rfl, rfl, rfl⟩ := tri hT
        clear hT
        have hz : (((0 : Nat) : Int) == 0) = true := rfl
        go_wp2
        refine bodyPost_ret (v := .tuple #[.agg Tok.nil.cells, .int .i64 (p : Int), .int .i64 20]) (by exact tok_results3 Try.results30 rfl rfl rfl (four_row (row_alloc HR2.out _)) rfl) rfl ⟨rfl, ?_⟩
        exact below_new (below_new (below_new (below_new (pw_below_drewN (HB1.out.alloc HB1.out.size _) _) (Nat.le_refl _) _ _) (Nat.le_refl _) _ _) (Nat.le_refl _) _ _) (Nat.le_refl _) _ _
      · rw [if_neg hb0] at hT
        obtain ⟨rfl, rfl, rfl⟩ := tri hT
        clear hT
        have hz : ((bb : Int) == 0) = false := by simp; omega
        clear hb0
        go_wp2
        refine bodyPost_ret (v := .tuple #[.agg #[.int .i64 kk, .int .i64 (p : Int), .int .i64 0, .string ⟨#[]⟩], .int .i64 ((p + bb : Nat) : Int), .int .i64 0]) (by exact tok_results3 Try.results30 rfl rfl rfl (four_row (row_alloc HR2.out _)) rfl) rfl ⟨rfl, ?_⟩
        exact below_new (below_new (below_new (below_new (pw_below_drewN (HB1.out.alloc HB1.out.size _) _) (Nat.le_refl _) _ _) (Nat.le_refl _) _ _) (Nat.le_refl _) _ _) (Nat.le_refl _) _ _

theorem cls4 {c : Int} (h : (33 ≤ c ∧ c ≤ 47) ∨ (58 ≤ c ∧ c ≤ 64) ∨ (91 ≤ c ∧ c ≤ 94) ∨ (123 ≤ c ∧ c ≤ 126)) : cls c = 4 := by
  unfold cls
  rw [if_neg (by omega), if_neg (by omega), if_neg (by omega), if_pos (by omega)]
theorem sign_best {l : List Int} (hb : byteRange l) {p : Nat} (hp : p < l.length) (h2 : cls (rd l p) ≠ 2) (h3 : cls (rd l p) ≠ 3) : bestTok p (bestI (l.drop p) signI 0 0 0) = if cls (rd l p) = 4 then signAt l p else (Tok.nil, 20, p) := by
  have hone : cls (rd l p) ≠ 4 → oneI (rd l p) = 0 ∧ ∀ d, twoI (rd l p) d = 0 := by
    intro h4
    have hc := hb p
    have r1 : ¬ ((33 ≤ rd l p ∧ rd l p ≤ 47) ∨ (58 ≤ rd l p ∧ rd l p ≤ 64) ∨ (91 ≤ rd l p ∧ rd l p ≤ 94) ∨ (123 ≤ rd l p ∧ rd l p ≤ 126)) := fun h => h4 (cls4 h)
    generalize rd l p = c at *
    constructor
    · unfold oneI
      simp only [show ¬ c = 40 by omega, show ¬ c = 41 by omega, show ¬ c = 123 by omega, show ¬ c = 125 by omega, show ¬ c = 91 by omega, show ¬ c = 93 by omega, show ¬ c = 44 by omega, show ¬ c = 59 by omega, show ¬ c = 61 by omega, show ¬ c = 33 by omega, show ¬ c = 60 by omega, show ¬ c = 62 by omega, show ¬ c = 43 by omega, show ¬ c = 45 by omega, show ¬ c = 42 by omega, show ¬ c = 47 by omega, show ¬ c = 37 by omega, show ¬ c = 38 by omega, show ¬ c = 124 by omega, show ¬ c = 94 by omega, if_false]
    · intro d
      unfold twoI
      simp only [show ¬ c = 61 by omega, show ¬ c = 33 by omega, show ¬ c = 60 by omega, show ¬ c = 62 by omega, show ¬ c = 38 by omega, show ¬ c = 124 by omega, false_and, if_false]
  have hsign : bestTok p (bestI (l.drop p) signI 0 0 0) = signAt l p := by
    rw [drop_rd l p hp]
    unfold signAt
    rw [oneK_eq]
    by_cases h1 : p + 1 < l.length
    · have e : (l.drop p).take 2 = [rd l p, rd l (p + 1 : Nat)] := by rw [drop_rd l p hp, drop_rd l (p + 1) h1]; rfl
      rw [drop_rd l (p + 1) h1, best_two, e, twoK_eq (hb _) (hb _)]
      generalize twoI (rd l p) (rd l (p + 1 : Nat)) = t2
      generalize oneI (rd l p) = t1
      by_cases ht : t2 = 0
      · by_cases ho : t1 = 0
        · simp [ht, ho, bestTok]
        · simp [ht, ho, bestTok]
      · simp [ht, h1, bestTok]
    · rw [List.drop_eq_nil_of_le (by omega), best_one]
      generalize oneI (rd l p) = t1
      by_cases ho : t1 = 0
      · simp [h1, ho, bestTok]
      · simp [h1, ho, bestTok]
  by_cases h4 : cls (rd l p) = 4
  · rw [if_pos h4, hsign]
  · rw [if_neg h4, hsign]
    obtain ⟨h5, h6⟩ := hone h4
    unfold signAt
    rw [if_neg (fun h => ?_), oneK_eq, if_pos h5]
    have e : (l.drop p).take 2 = [rd l p, rd l (p + 1 : Nat)] := by rw [drop_rd l p hp, drop_rd l (p + 1) h.1]; rfl
    rw [e, twoK_eq (hb _) (hb _)] at h
    exact h.2 (h6 _)
theorem ref_token (A : Option Addr) (n c p : Nat) (l : List Int) (w : World) (x : Tok) (err : Int) (q : Nat) (hp : p < n) (hnc : n ≤ c) (hnb : n ≤ 3000000000000) (hr : ReadsInt w .u8 A n l) (hb : byteRange l) (h : tokAt l p = (x, err, q)) :
    Calls Try.prog 30 #[.slice A n c, .int .i64 (p : Int)] w fun e w' => RefPost w w' x err q e := by
  unfold tokAt at h
  by_cases h3 : cls (rd l p) = 3
  · rw [if_pos h3] at h
    exact ref_name A n c p l w x err q hp hnc hr hb h3 h
  · rw [if_neg h3] at h
    by_cases h2 : cls (rd l p) = 2
    · rw [if_pos h2] at h
      exact ref_number A n c p l w x err q hp hnc hr hb h2 h
    · rw [if_neg h2, ← sign_best hb (by rw [hr.1]; exact hp) h2 h3] at h
      exact ref_sign A n c p l w x err q hp hnc hnb hr hb h2 h3 h
end Go.Proofs.Yteenkeccpfgffaa
