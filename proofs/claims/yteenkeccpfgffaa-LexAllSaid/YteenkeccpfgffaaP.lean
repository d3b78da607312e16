/- The reference's number (quernref2), by the same plain functions (chapter 2). -/
import Derived.Test.YteenkeccpfgffaaO
set_option linter.unusedVariables false
set_option linter.unusedSimpArgs false
namespace Go.Proofs.Yteenkeccpfgffaa
open Go.RowKit Go.Proofs.YteenkeccpfgffaaW.PrintWords Go.Proofs.YteenkeccpfgffaaW.PrintLast Go.Proofs.YteenkeccpfgffaaW.PrintMore

def digVal (v : Int) : List Int → Int
  | [] => v
  | c :: r => digVal (10 * v + (c - 48)) r
def digits (l : List Int) : Prop := ∀ c ∈ l, 48 ≤ c ∧ c ≤ 57
theorem digVal_ge (l : List Int) : ∀ v, 0 ≤ v → digits l → v ≤ digVal v l := by
  induction l with
  | nil => intro v _ _; exact Int.le_refl _
  | cons c r ih =>
    intro v hv hd
    have hc := hd c (by simp)
    have := ih (10 * v + (c - 48)) (by omega) (fun x hx => hd x (by simp [hx]))
    simp only [digVal]
    omega
theorem numFrom_val (l : List Int) : ∀ v, 0 ≤ v → digits l → numFrom v l = if v ≤ 9223372036854775807 ∧ digVal v l ≤ 9223372036854775807 then some (digVal v l) else numFrom v l := by
  intro v hv hd
  split
  · rename_i h
    revert v
    induction l with
    | nil => intro v hv h; rfl
    | cons c r ih =>
      intro v hv h
      have hc := hd c (by simp)
      have hge := digVal_ge r (10 * v + (c - 48)) (by omega) (fun x hx => hd x (by simp [hx]))
      simp only [digVal] at h ⊢
      rw [numFrom, if_neg (by omega)]
      exact ih (fun x hx => hd x (by simp [hx])) _ (by omega) ⟨by omega, h.2⟩
  · rfl
theorem numFrom_some {l : List Int} (hd : digits l) (h : digVal 0 l ≤ 9223372036854775807) : numFrom 0 l = some (digVal 0 l) := by
  rw [numFrom_val l 0 (by omega) hd, if_pos ⟨by omega, h⟩]
theorem numFrom_none : ∀ (l : List Int) (v : Int), 0 ≤ v → v ≤ 9223372036854775807 → digits l → 9223372036854775807 < digVal v l → numFrom v l = none := by
  intro l
  induction l with
  | nil => intro v _ h1 _ h2; simp only [digVal] at h2; omega
  | cons c r ih =>
    intro v hv h1 hd h2
    have hc := hd c (by simp)
    rw [numFrom]
    split
    · rfl
    · exact ih _ (by omega) (by omega) (fun x hx => hd x (by simp [hx])) h2
theorem digVal_snoc (l : List Int) : ∀ v c, digVal v (l ++ [c]) = 10 * digVal v l + (c - 48) := by
  induction l with
  | nil => intro v c; rfl
  | cons d r ih => intro v c; simp only [List.cons_append, digVal]; exact ih _ _
theorem digVal_lt (l : List Int) : ∀ v, digits l → digVal v l < (v + 1) * 10 ^ l.length := by
  induction l with
  | nil => intro v _; simp [digVal]; omega
  | cons c r ih =>
    intro v hd
    have hc := hd c (by simp)
    have := ih (10 * v + (c - 48)) (fun x hx => hd x (by simp [hx]))
    simp only [digVal, List.length_cons]
    have h2 : (10 * v + (c - 48) + 1) * 10 ^ r.length ≤ ((v + 1) * 10) * 10 ^ r.length := Int.mul_le_mul_of_nonneg_right (by omega) (Int.pow_nonneg (by omega))
    rw [Int.pow_succ, Int.mul_comm (10 ^ r.length) 10, ← Int.mul_assoc]
    omega
theorem digVal_big (l : List Int) : ∀ v, 0 ≤ v → digits l → v * 10 ^ l.length ≤ digVal v l := by
  induction l with
  | nil => intro v _ _; simp [digVal]
  | cons c r ih =>
    intro v hv hd
    have hc := hd c (by simp)
    have := ih (10 * v + (c - 48)) (by omega) (fun x hx => hd x (by simp [hx]))
    simp only [digVal, List.length_cons]
    have h2 : (v * 10) * 10 ^ r.length ≤ (10 * v + (c - 48)) * 10 ^ r.length := Int.mul_le_mul_of_nonneg_right (by omega) (Int.pow_nonneg (by omega))
    rw [Int.pow_succ, Int.mul_comm (10 ^ r.length) 10, ← Int.mul_assoc]
    omega
theorem pow10_le {a b : Nat} (h : a ≤ b) : (10 : Int) ^ a ≤ 10 ^ b := by
  have h1 : ((10 ^ a : Nat) : Int) ≤ ((10 ^ b : Nat) : Int) := Int.ofNat_le.2 (Nat.pow_le_pow_right (by omega) h)
  simpa [Int.natCast_pow] using h1
theorem num_long {l : List Int} (hd : digits l) (hz : rd l 0 ≠ 48) (hn : 19 < l.length) : numFrom 0 l = none := by
  cases l with
  | nil => simp at hn
  | cons c r =>
    have hc := hd c (by simp)
    have hdr : digits r := fun x hx => hd x (by simp [hx])
    have h0 : rd (c :: r) 0 = c := rfl
    rw [h0] at hz
    refine numFrom_none _ 0 (by omega) (by omega) hd ?_
    simp only [digVal]
    have h1 := digVal_big r (10 * 0 + (c - 48)) (by omega) hdr
    have h2 : (10 : Int) ^ 19 ≤ 10 ^ r.length := pow10_le (by simp at hn; omega)
    have h3 : 1 * (10 : Int) ^ 19 ≤ (10 * 0 + (c - 48)) * 10 ^ r.length := Int.mul_le_mul (by omega) h2 (Int.pow_nonneg (by omega)) (by omega)
    have h4 : (9223372036854775807 : Int) < 1 * 10 ^ 19 := by decide
    omega
theorem take_snoc' (l : List Int) (k : Nat) (h : k < l.length) : l.take (k + 1) = l.take k ++ [rd l k] := by
  rw [List.take_succ_eq_append_getElem h]
  simp [rd, List.getD_eq_getElem?_getD, List.getElem?_eq_getElem h]
theorem digits_take {l : List Int} (h : digits l) (k : Nat) : digits (l.take k) := fun c hc => h c (List.mem_of_mem_take hc)
theorem digits_rd {l : List Int} (h : digits l) {k : Nat} (hk : k < l.length) : 48 ≤ rd l k ∧ rd l k ≤ 57 := by
  have e : rd l k = l[k] := by simp [rd, List.getD_eq_getElem?_getD, List.getElem?_eq_getElem hk]
  rw [e]; exact h _ (List.getElem_mem hk)

def NumRet (r : Option Int) : Ending := match r with | none => .returned (.tuple #[.int .i64 0, .bool false]) | some v => .returned (.tuple #[.int .i64 v, .bool true])
set_option maxHeartbeats 2000000 in
theorem refnumber_any (A : Option Addr) (n c : Nat) (ds : List Int) (w : World) (r : Option Int) (hr : ReadsInt w .u8 A n ds) (hd : digits ds) (hn0 : 0 < n) (hz : ¬ (1 < n ∧ rd ds 0 = 48)) (hN : numFrom 0 ds = r) :
    Calls Try.prog 40 #[.slice A n c] w fun e w' => e = NumRet r ∧ w = w' := by
  have hn := hr.2.1
  have hl := hr.1
  obtain ⟨ad, hA, hcell0⟩ := cell_zero hr hn0
  obtain rfl := hA
  have HR := Lib.hid hr
  have HD := Lib.hid hd
  have HL := Lib.hid hl
  have HN := Lib.hid hN
  have hgd : (n ≤ 1) ∨ (1 < n ∧ (rd ds 0 == 48) = false) := by
    rcases Nat.lt_or_ge 1 n with h | h
    · exact .inr ⟨h, by simpa using fun h2 => hz ⟨h, h2⟩⟩
    · exact .inl h
  by_cases h19 : 19 < n
  · have hnone := num_long hd (fun h => hz ⟨by omega, h⟩) (by omega)
    have hrr := Lib.hid (hN.symm.trans hnone)
    clear hr hd hl hN hz hnone
    rcases hgd with hgd | ⟨h1, hgd⟩
    · omega
    · generalize rd ds 0 = fv at *
      go_enter Try.func40, Try.ntmps40
      go_wp2
      go_ret2
      rw [hrr.out]
      exact ⟨rfl, rfl⟩
  · clear hr hd hl hN hz
    generalize rd ds 0 = fv at *
    rcases hgd with h1 | ⟨h1, hgd⟩
    all_goals
      go_enter Try.func40, Try.ntmps40
      go_wp2
      go_loop [4, 5] (fun v i => ∃ k : Nat, k ≤ n ∧ i = .int .i64 k ∧ v = .int .u64 (digVal 0 (ds.take k))) (fun _ i => n - (intOf i).toNat)
      case atStart => exact ⟨0, by omega, rfl, rfl⟩
      case round =>
        obtain ⟨k, hk, rfl, rfl⟩ := hrel
        by_cases hlt : k < n
        · obtain ⟨ad2, hA2, hcell⟩ := HR.out.at_ (k : Int) (by omega) (by omega)
          obtain rfl := Option.some.inj hA2
          rw [Int.toNat_natCast] at hcell
          have hsn := digVal_snoc (ds.take k) 0 (rd ds k)
          rw [← take_snoc' ds k (by rw [HL.out]; exact hlt)] at hsn
          have hcd := digits_rd HD.out (k := k) (by rw [HL.out]; exact hlt)
          have hx0 := digVal_ge (ds.take k) 0 (by omega) (digits_take HD.out k)
          have hx1 : digVal 0 (ds.take k) ≤ 999999999999999999 := by
            have h2 := digVal_lt (ds.take k) 0 (digits_take HD.out k)
            have h3 : (10 : Int) ^ (ds.take k).length ≤ 10 ^ 18 := pow10_le (by rw [List.length_take]; omega)
            have h4 : (10 : Int) ^ 18 = 1000000000000000000 := by decide
            omega
          generalize digVal 0 (ds.take k) = x at *
          generalize rd ds k = cv at *
          have HSN := Lib.hid hsn
          clear hsn
          go_wp2
          go_round
          case rel => exact ⟨k + 1, by omega, by go_num, by rw [HSN.out]⟩
          case measure => simp [intOf]; omega
        · obtain rfl : k = n := by omega
          have e : ds.take k = ds := List.take_of_length_le (by rw [HL.out]; omega)
          rw [e]
          have hx0 := digVal_ge ds 0 (by omega) HD.out
          have hx1 : digVal 0 ds ≤ 9999999999999999999 := by
            have h2 := digVal_lt ds 0 HD.out
            have h3 : (10 : Int) ^ ds.length ≤ 10 ^ 19 := pow10_le (by rw [HL.out]; omega)
            have h4 : (10 : Int) ^ 19 = 10000000000000000000 := by decide
            omega
          by_cases hbig : digVal 0 ds ≤ 9223372036854775807
          · have hrr := Lib.hid (HN.out.symm.trans (numFrom_some HD.out hbig))
            generalize digVal 0 ds = x at *
            go_wp2
            go_ret2
            rw [hrr.out]
            exact ⟨rfl, rfl⟩
          · have hrr := Lib.hid (HN.out.symm.trans (numFrom_none ds 0 (by omega) (by omega) HD.out (by omega)))
            generalize digVal 0 ds = x at *
            go_wp2
            go_ret2
            rw [hrr.out]
            exact ⟨rfl, rfl⟩
end Go.Proofs.Yteenkeccpfgffaa
