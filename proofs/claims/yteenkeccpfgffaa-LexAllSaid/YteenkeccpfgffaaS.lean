/- The reference's token (quernref2), a number (chapter 2). -/
import Derived.Test.YteenkeccpfgffaaR
set_option linter.unusedVariables false
set_option linter.unusedSimpArgs false
namespace Go.Proofs.Yteenkeccpfgffaa
open Go.RowKit Go.Proofs.YteenkeccpfgffaaW.PrintWords Go.Proofs.YteenkeccpfgffaaW.PrintLast Go.Proofs.YteenkeccpfgffaaW.PrintMore

theorem refnumber_zero (A : Option Addr) (n c : Nat) (ds : List Int) (w : World) (hr : ReadsInt w .u8 A n ds) (hn0 : 1 < n) (hz : rd ds 0 = 48) :
    Calls Try.prog 40 #[.slice A n c] w fun e w' => e = NumRet none ∧ w = w' := by
  have hn := hr.2.1
  obtain ⟨ad, hA, hcell0⟩ := cell_zero hr (by omega)
  obtain rfl := hA
  rw [hz] at hcell0
  clear hr hz
  go_enter Try.func40, Try.ntmps40
  go_wp2
  go_ret2
  exact ⟨rfl, rfl⟩
theorem refnumber_all (A : Option Addr) (n c : Nat) (ds : List Int) (w : World) (r : Option Int) (hr : ReadsInt w .u8 A n ds) (hd : digits ds) (hn0 : 0 < n) (h : (if 1 < n ∧ rd ds 0 = 48 then none else numFrom 0 ds) = r) :
    Calls Try.prog 40 #[.slice A n c] w fun e w' => e = NumRet r ∧ w = w' := by
  by_cases hz : 1 < n ∧ rd ds 0 = 48
  · rw [if_pos hz] at h
    subst h
    exact refnumber_zero A n c ds w hr hz.1 hz.2
  · rw [if_neg hz] at h
    exact refnumber_any A n c ds w r hr hd hn0 hz h
theorem tw_digits (l : List Int) : digits (l.takeWhile (strOk false)) := by
  intro c hc
  exact digit_of (List.all_eq_true.1 List.all_takeWhile _ hc)
theorem take_tw (b : Bool) (l : List Int) : l.take (strL b l) = l.takeWhile (strOk b) := by
  unfold strL
  exact (List.prefix_iff_eq_take.1 (List.takeWhile_prefix (strOk b))).symm
theorem numberAt_eq (l : List Int) (p : Nat) (hm : 0 < strL false (l.drop p)) : numberAt l p = numAns p (strL false (l.drop p)) (if 1 < strL false (l.drop p) ∧ rd ((l.drop p).take (strL false (l.drop p))) 0 = 48 then none else numFrom 0 ((l.drop p).take (strL false (l.drop p)))) := by
  have e : rd ((l.drop p).take (strL false (l.drop p))) 0 = rd l p := by
    have := rd_take (l.drop p) (strL false (l.drop p)) 0 hm
    rw [show ((0 : Nat) : Int) = 0 from rfl] at this
    rw [this, rd_drop0]
  unfold numberAt
  rw [e]
  split <;> rfl

set_option maxHeartbeats 4000000 in
theorem ref_number (A : Option Addr) (n c p : Nat) (l : List Int) (w : World) (x : Tok) (err : Int) (q : Nat) (hp : p < n) (hnc : n ≤ c) (hr : ReadsInt w .u8 A n l) (hb : byteRange l) (h2 : cls (rd l p) = 2) (h : numberAt l p = (x, err, q)) :
    Calls Try.prog 30 #[.slice A n c, .int .i64 (p : Int)] w fun e w' => RefPost w w' x err q e := by
  obtain ⟨ad, hA, hcell⟩ := hr.at_ (p : Int) (by omega) (by omega)
  obtain rfl := hA
  rw [Int.toNat_natCast] at hcell
  have hbk := hb p
  have hn := hr.2.1
  have hcell2 := (World.grownBy_alloc w (.cells #[.int .i64 0, .int .i64 0, .int .i64 0, .string ⟨#[]⟩] 33) none).cell hcell (by simp)
  have h2b : (cls (rd l p) == 2) = true := by simpa using h2
  have h3b : (cls (rd l p) == 3) = false := by rw [h2]; rfl
  have hm0 : 0 < strL false (l.drop p) := by
    rw [strL_step false l p (by rw [hr.1]; exact hp)]
    simp [strOk, h2]
  rw [numberAt_eq l p hm0] at h
  have hdig := tw_digits (l.drop p)
  rw [← take_tw] at hdig
  have hstr : strL false (l.drop p) ≤ n - p := by
    have h := strL_le false (l.drop p)
    rw [List.length_drop, hr.1] at h
    exact h
  have HR := Lib.hid hr
  have hl := hr.1
  clear hr hb h2
  generalize rd l p = cv at *
  generalize hm : strL false (l.drop p) = m at *
  obtain ⟨A', hsl, hrd⟩ := mid_cut (some ad) n c p m l hl (by omega) hnc
  have HM := Lib.hid hm
  have HX := Lib.hid (hrd _ (reads_alloc HR.out (.cells #[.int .i64 0, .int .i64 0, .int .i64 0, .string ⟨#[]⟩] 33)))
  generalize (l.drop p).take m = ds at *
  generalize hrr : (if 1 < m ∧ rd ds 0 = 48 then none else numFrom 0 ds) = r at *
  have HRR := Lib.hid hrr
  have HD := Lib.hid hdig
  clear hm hrd hrr hdig
  cases r with
  | none =>
    obtain ⟨rfl, rfl, rfl⟩ := tri h
    clear h
    go_enter Try.func30, Try.ntmps30
    go_wp2_with (first | (go_at_call 36; refine (letter_any _ _).mono ?_; rintro e w' ⟨rfl, rfl⟩) | (go_at_call 39; refine (digit_any _ _).mono ?_; rintro e w' ⟨rfl, rfl⟩) | (go_at_call 37; refine (row_any (some ad) n c p false l _ (by exact reads_alloc HR.out _) (by omega)).mono ?_; rintro e w' ⟨rfl, rfl⟩; rw [HM.out]) | (go_at_call 40; refine (refnumber_all A' m (c - p) ds _ none (by exact HX.out) HD.out hm0 HRR.out).mono ?_; rintro e w' ⟨he, rfl⟩; obtain rfl : e = .returned (.tuple #[.int .i64 0, .bool false]) := he))
    refine bodyPost_ret (v := .tuple #[.agg Tok.nil.cells, .int .i64 (p : Int), .int .i64 22]) (by exact tok_results3 Try.results30 rfl rfl rfl (heap_alloc_new w _) rfl) rfl ⟨rfl, (Below.refl _ _).alloc (Nat.le_refl _) _⟩
  | some v =>
    obtain ⟨rfl, rfl, rfl⟩ := tri h
    clear h
    go_enter Try.func30, Try.ntmps30
    go_wp2_with (first | (go_at_call 36; refine (letter_any _ _).mono ?_; rintro e w' ⟨rfl, rfl⟩) | (go_at_call 39; refine (digit_any _ _).mono ?_; rintro e w' ⟨rfl, rfl⟩) | (go_at_call 37; refine (row_any (some ad) n c p false l _ (by exact reads_alloc HR.out _) (by omega)).mono ?_; rintro e w' ⟨rfl, rfl⟩; rw [HM.out]) | (go_at_call 40; refine (refnumber_all A' m (c - p) ds _ (some v) (by exact HX.out) HD.out hm0 HRR.out).mono ?_; rintro e w' ⟨he, rfl⟩; obtain rfl : e = .returned (.tuple #[.int .i64 v, .bool true]) := he))
    refine bodyPost_ret (v := .tuple #[.agg #[.int .i64 2, .int .i64 (p : Int), .int .i64 v, .string ⟨#[]⟩], .int .i64 ((p + m : Nat) : Int), .int .i64 0]) (by exact tok_results3 Try.results30 rfl rfl rfl (heap_alloc_new w _) rfl) rfl ⟨rfl, (Below.refl _ _).alloc (Nat.le_refl _) _⟩
end Go.Proofs.Yteenkeccpfgffaa
