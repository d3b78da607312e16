/- Walks of lex.reader.stretch and skip (chapter 2). -/
import Derived.Test.YteenkeccpfgffaaA
set_option linter.unusedVariables false
set_option linter.unusedSimpArgs false
namespace Go.Proofs.Yteenkeccpfgffaa
open Go.RowKit Go.Proofs.YteenkeccpfgffaaW.PrintWords Go.Proofs.YteenkeccpfgffaaW.PrintLast Go.Proofs.YteenkeccpfgffaaW.PrintMore

def strOk (b : Bool) (c : Int) : Bool := (cls c == 3 && b) || cls c == 2
def strL (b : Bool) (l : List Int) : Nat := (l.takeWhile (strOk b)).length
theorem strL_cons (b : Bool) (c : Int) (l : List Int) : strL b (c :: l) = if strOk b c then strL b l + 1 else 0 := by
  unfold strL
  rw [List.takeWhile_cons]
  split <;> simp
theorem drop_rd (l : List Int) (k : Nat) (h : k < l.length) : l.drop k = rd l k :: l.drop (k + 1) := by
  rw [List.drop_eq_getElem_cons h]
  simp [rd, List.getD_eq_getElem?_getD, List.getElem?_eq_getElem h]
theorem strL_step (b : Bool) (l : List Int) (k : Nat) (h : k < l.length) : strL b (l.drop k) = if strOk b (rd l k) then strL b (l.drop (k + 1)) + 1 else 0 := by
  rw [drop_rd l k h, strL_cons]
theorem strL_end (b : Bool) (l : List Int) (k : Nat) (h : l.length ≤ k) : strL b (l.drop k) = 0 := by
  rw [List.drop_eq_nil_of_le h]; rfl
theorem cls_range (c : Int) : 0 ≤ cls c ∧ cls c ≤ 4 := by
  unfold cls
  split
  · omega
  · split
    · omega
    · split
      · omega
      · split <;> omega

def byteRange (l : List Int) : Prop := ∀ i : Int, 0 ≤ rd l i ∧ rd l i ≤ 255
theorem byteRange.drop {l : List Int} (h : byteRange l) (k : Nat) : byteRange (l.drop k) := by
  intro i
  have e : rd (l.drop k) i = rd l ((k + i.toNat : Nat) : Int) := by
    unfold rd
    rw [Int.toNat_natCast]
    simp [List.getD_eq_getElem?_getD, List.getElem?_drop]
  rw [e]
  exact h _
theorem byteRange.take {l : List Int} (h : byteRange l) (k : Nat) : byteRange (l.take k) := by
  intro i
  by_cases hi : i.toNat < k
  · have e : rd (l.take k) i = rd l i := by simp [rd, List.getD_eq_getElem?_getD, List.getElem?_take, hi]
    rw [e]; exact h _
  · have e : rd (l.take k) i = 0 := by simp [rd, List.getD_eq_getElem?_getD, List.getElem?_take, hi]
    rw [e]; omega

theorem str_stop {b : Bool} {l xs : List Int} {p k : Nat} {cv : Int} (hxs : l.drop p = xs) (hk : strL b xs = k + strL b (xs.drop k)) (hlt : k < xs.length) (hcv : rd xs k = cv) (hs : strOk b cv = false) : (k : Int) = strL b (l.drop p) := by
  rw [hxs, hk, strL_step b xs k hlt, hcv, hs]
  simp
theorem str_go {b : Bool} {xs : List Int} {k : Nat} {cv : Int} (hk : strL b xs = k + strL b (xs.drop k)) (hlt : k < xs.length) (hcv : rd xs k = cv) (hs : strOk b cv = true) : strL b xs = (k + 1) + strL b (xs.drop (k + 1)) := by
  rw [hk, strL_step b xs k hlt, hcv, hs]
  simp; omega
theorem str_end {b : Bool} {l xs : List Int} {p k : Nat} (hxs : l.drop p = xs) (hk : strL b xs = k + strL b (xs.drop k)) (hge : xs.length ≤ k) : (k : Int) = strL b (l.drop p) := by
  rw [hxs, hk, strL_end b xs k hge]
  simp

set_option maxHeartbeats 1000000 in
theorem stretch_any (B : Nat) (b : Bool) (A : Option Addr) (n c p : Nat) (l : List Int) (w : World) (h0 : w.cell? ⟨B, 0, none⟩ = some (.slice A n c)) (h1 : w.cell? ⟨B, 1, none⟩ = some (.int .i64 (p : Int))) (hp : p ≤ n)
    (hnc : n ≤ c) (hr : ReadsInt w .u8 A n l) (hb : byteRange l) :
    Calls Try.prog 42 #[.pointer (some ⟨B, 0, none⟩), .bool b] w fun e w' => e = .returned (.int .i64 (strL b (l.drop p))) ∧ ∃ nq, w' = w.drewN nq := by
  have hb' := hb.drop p
  have HR := Lib.hid hr
  clear hr hb
  go_enter Try.func42, Try.ntmps42
  go_wp2
  go_step3
  go_wp2
  go_step3
  go_wp2_with (go_at_call 32; refine (rest_any B A n c p _ h0 h1 hp).mono ?_; rintro e w' ⟨A', rfl, HRD, nq, rfl⟩)
  have hx := HRD w .u8 l hnc HR.out
  clear HRD h0 h1
  generalize hxs : l.drop p = xs at *
  generalize hm : n - p = m at *
  have hmb := hx.2.1
  have hlen := hx.1
  have HX := Lib.hid hx
  have HM := Lib.hid hm
  have HXS := Lib.hid hxs
  have HLEN := Lib.hid hlen
  clear hx hm hxs hlen HR
  go_loop [5, 11] (fun t i => ∃ k : Nat, k ≤ m ∧ i = .int .i64 k ∧ t = .int .i64 k ∧ Hid (strL b xs = k + strL b (xs.drop k))) (fun _ i => m - (intOf i).toNat)
  case atStart => exact ⟨0, by omega, rfl, rfl, Lib.hid (by simp)⟩
  case round =>
    obtain ⟨k, hk, rfl, rfl, HK⟩ := hrel
    by_cases hlt : k < m
    · obtain ⟨ad, hA, hcell⟩ := HX.out.at_ (k : Int) (by omega) (by omega)
      obtain rfl := hA
      rw [Int.toNat_natCast] at hcell
      have hbk := hb' k
      generalize hcv : rd xs k = cv at *
      have HCV := Lib.hid hcv
      clear hcv
      cases b
      all_goals
        go_wp2_with (go_at_call 31; refine (class_any _ hbk.1 hbk.2 _).mono ?_; rintro e w' ⟨rfl, rfl⟩)
      · rw [Exit.noGoto_ret]
        go_ret
        exact ⟨ret_int (str_stop HXS.out HK.out (by rw [HLEN.out]; exact hlt) HCV.out (by simp [strOk]; simp_all)), nq, rfl⟩
      · go_round
        case rel => exact ⟨k + 1, by omega, by go_num, by go_num, Lib.hid (str_go HK.out (by rw [HLEN.out]; exact hlt) HCV.out (by simp [strOk]; simp_all))⟩
        case measure => simp [intOf]; omega
      · rw [Exit.noGoto_ret]
        go_ret
        exact ⟨ret_int (str_stop HXS.out HK.out (by rw [HLEN.out]; exact hlt) HCV.out (by simp [strOk]; simp_all)), nq, rfl⟩
      · go_round
        case rel => exact ⟨k + 1, by omega, by go_num, by go_num, Lib.hid (str_go HK.out (by rw [HLEN.out]; exact hlt) HCV.out (by simp [strOk]; simp_all))⟩
        case measure => simp [intOf]; omega
      · go_round
        case rel => exact ⟨k + 1, by omega, by go_num, by go_num, Lib.hid (str_go HK.out (by rw [HLEN.out]; exact hlt) HCV.out (by simp [strOk]; simp_all))⟩
        case measure => simp [intOf]; omega
      · rw [Exit.noGoto_ret]
        go_ret
        exact ⟨ret_int (str_stop HXS.out HK.out (by rw [HLEN.out]; exact hlt) HCV.out (by simp [strOk]; simp_all)), nq, rfl⟩
    · go_wp2
      go_ret
      exact ⟨ret_int (str_end HXS.out HK.out (by rw [HLEN.out]; omega)), nq, rfl⟩
end Go.Proofs.Yteenkeccpfgffaa
