/- Walks of lex.word and lex.one (chapter 2). -/
import Derived.Test.YteenkeccpfgffaaD
set_option linter.unusedVariables false
set_option linter.unusedSimpArgs false
namespace Go.Proofs.Yteenkeccpfgffaa
open Go.RowKit Go.Proofs.YteenkeccpfgffaaW.PrintWords Go.Proofs.YteenkeccpfgffaaW.PrintLast Go.Proofs.YteenkeccpfgffaaW.PrintMore

def wordsL : List ByteArray := [⟨#[102, 117, 110, 99]⟩, ⟨#[118, 97, 114]⟩, ⟨#[105, 102]⟩, ⟨#[101, 108, 115, 101]⟩, ⟨#[102, 111, 114]⟩, ⟨#[114, 101, 116, 117, 114, 110]⟩, ⟨#[98, 114, 101, 97, 107]⟩, ⟨#[99, 111, 110, 116, 105, 110, 117, 101]⟩, ⟨#[112, 114, 105, 110, 116]⟩, ⟨#[112, 97, 110, 105, 99]⟩, ⟨#[105, 110, 112, 117, 116]⟩, ⟨#[108, 101, 110]⟩, ⟨#[109, 97, 107, 101]⟩, ⟨#[105, 110, 116]⟩, ⟨#[98, 111, 111, 108]⟩, ⟨#[116, 114, 117, 101]⟩, ⟨#[102, 97, 108, 115, 101]⟩, ⟨#[110, 105, 108]⟩]
def wd (k : Nat) : ByteArray := wordsL.getD k ⟨#[]⟩
def wordFrom (s : ByteArray) : List ByteArray → Nat → Int
  | [], _ => 1
  | x :: r, k => if s.data.toList = x.data.toList then 10 + k else wordFrom s r (k + 1)
def wordK (s : ByteArray) : Int := wordFrom s wordsL 0
theorem word_index (k : Nat) (hk : k < 18) : ∀ w : World, (Instr.index 65 (.agg (wordsL.map Value.string).toArray) (.int .i64 (k : Int))).run Try.prog w = .ok (.string (wd k)) w := by
  intro w
  refine run_index_agg 65 9 18 _ .i64 k _ Try.underlying65 Try.underlying9 rfl (by kernel_rfl) hk ?_
  have hl : k < wordsL.length := by simpa [wordsL] using hk
  simp [wd, List.getD_eq_getElem?_getD, List.getElem?_eq_getElem hl]
theorem word_miss {s : ByteArray} {k : Nat} (hk : k < 18) (h : wordK s = wordFrom s (wordsL.drop k) k) (hne : (s.toList == (wd k).toList) = false) : wordK s = wordFrom s (wordsL.drop (k + 1)) (k + 1) := by
  have hd : wordsL.drop k = wd k :: wordsL.drop (k + 1) := by
    rw [List.drop_eq_getElem_cons (by simpa [wordsL] using hk)]
    simp [wd, List.getD_eq_getElem?_getD, List.getElem?_eq_getElem (show k < wordsL.length by simpa [wordsL] using hk)]
  rw [h, hd, wordFrom, if_neg (by simpa [ByteArray.toList_eq] using hne)]
theorem word_hit {s : ByteArray} {k : Nat} (hk : k < 18) (h : wordK s = wordFrom s (wordsL.drop k) k) (he : (s.toList == (wd k).toList) = true) : 10 + (k : Int) = wordK s := by
  have hd : wordsL.drop k = wd k :: wordsL.drop (k + 1) := by
    rw [List.drop_eq_getElem_cons (by simpa [wordsL] using hk)]
    simp [wd, List.getD_eq_getElem?_getD, List.getElem?_eq_getElem (show k < wordsL.length by simpa [wordsL] using hk)]
  rw [h, hd, wordFrom, if_pos (by simpa [ByteArray.toList_eq] using he)]

def wordsV : Array Value := (wordsL.map Value.string).toArray
theorem wordsV_size : wordsV.size = 18 := rfl
theorem setRow_alloc (w : World) (old V : Array Value) (t : TypeId) (fr : Nat × Nat) : (w.alloc (.cells old t fr)).setRow w.heap.size V = w.alloc (.cells V t fr) := by
  unfold World.setRow World.alloc
  congr 1
  apply Array.ext
  · simp
  · intro i h1 h2
    simp at h1
    rw [Array.getElem_modify]
    split
    · rename_i e
      subst e
      simp
    · rename_i e
      rw [Array.getElem_push, Array.getElem_push]
      split
      · rfl
      · exact absurd (by omega) e
theorem store_alloc {P : Program} (w : World) (old V : Array Value) (t : TypeId) (hs : old.size = V.size) (h1 : ∀ v ∈ V.toList, v.oneCell' = true) :
    (storeCells ⟨w.heap.size, 0, none⟩ V.toList).run P (w.alloc (.cells old t (0, 0))) = .ok () (w.alloc (.cells V t (0, 0))) := by
  have h := run_storeCells_from (P := P) w.heap.size t V.toList 0 old (w.alloc (.cells old t (0, 0))) (heap_alloc_new w _) (by simp; omega) h1
  rw [h]
  simp [setRow_alloc]
theorem wpList_build_lit {P : Program} {ops : Array Oper} {rest : List Oper} {o : Oper} {a : Act} {w : World} {Q : Exit → Act → World → Prop} (hg : o.guard = none) (t : TypeId) (parts : Array (Nat × Operand)) (ho : o.op = .build t parts)
    (V : Array Value) (hV : P.built t (parts.map fun (i, x) => (i, a.eval x)).toList = some V) (h : wpList P ops Q rest (a.put o.dst (.agg V)) w) : wpList P ops Q (o :: rest) a w := by
  refine wpList_build hg t parts ho (by rw [hV]; rfl) ?_
  rw [hV]
  exact h

theorem wordsV_one : ∀ v ∈ wordsV.toList, v.oneCell' = true := by
  intro v hv
  simp [wordsV] at hv
  obtain ⟨x, _, rfl⟩ := hv
  rfl
theorem word_at (k : Nat) (hk : k < 18) : ∀ w : World, (Instr.index 65 (.agg wordsV) (.int .i64 (k : Int))).run Try.prog w = .ok (.string (wd k)) w := word_index k hk
attribute [irreducible] wordsV
set_option maxHeartbeats 1000000 in
theorem word_any (s : ByteArray) (w : World) :
    Calls Try.prog 43 #[.string s] w fun e w' => e = .returned (.int .i64 (wordK s)) ∧ Below w.heap.size w w' := by
  have hst := store_alloc (P := Try.prog) w #[.string ⟨#[]⟩, .string ⟨#[]⟩, .string ⟨#[]⟩, .string ⟨#[]⟩, .string ⟨#[]⟩, .string ⟨#[]⟩, .string ⟨#[]⟩, .string ⟨#[]⟩, .string ⟨#[]⟩, .string ⟨#[]⟩, .string ⟨#[]⟩, .string ⟨#[]⟩, .string ⟨#[]⟩, .string ⟨#[]⟩, .string ⟨#[]⟩, .string ⟨#[]⟩, .string ⟨#[]⟩, .string ⟨#[]⟩] wordsV 65 (by rw [wordsV_size]; rfl) wordsV_one
  have hsz := wordsV_size
  go_enter Try.func43, Try.ntmps43
  go_wp2_with (first | (refine wpList_build_lit rfl 65 _ rfl wordsV (by unfold wordsV; kernel_rfl) ?_) | (refine wpList_load_row rfl 65 (.tmp 3) rfl w.heap.size rfl 65 wordsV (0, 0) _ (heap_alloc_new w _) Try.underlying65 rfl (by rw [wordsV_size]; kernel_rfl) ?_))
  clear hst
  go_loop [8] (fun i => ∃ k : Nat, k ≤ 18 ∧ i = .int .i64 k ∧ Hid (wordK s = wordFrom s (wordsL.drop k) k)) (fun i => 18 - (intOf i).toNat)
  case atStart => exact ⟨0, by omega, rfl, Lib.hid (by rw [List.drop_zero]; rfl)⟩
  case round =>
    obtain ⟨k, hk, rfl, HK⟩ := hrel
    by_cases hlt : k < 18
    · have hix := word_at k hlt
      cases hq : (s.toList == (wd k).toList)
      · have HN := Lib.hid (word_miss hlt HK.out hq)
        go_wp2
        go_round
        case rel => exact ⟨k + 1, by omega, by go_num, HN⟩
        case measure => simp [intOf]; omega
      · have HN := Lib.hid (word_hit hlt HK.out hq)
        go_wp2
        go_ret
        exact ⟨ret_int HN.out, (Below.refl _ _).alloc (Nat.le_refl _) _⟩
    · obtain rfl : k = 18 := by omega
      have HN := Lib.hid HK.out
      go_wp2
      go_ret
      exact ⟨ret_int (by rw [HN.out]; rfl), (Below.refl _ _).alloc (Nat.le_refl _) _⟩

def signsL : List UInt8 := [40, 41, 123, 125, 91, 93, 44, 59, 61, 33, 60, 62, 43, 45, 42, 47, 37, 38, 124, 94]
def kindsL : List Int := [40, 41, 42, 43, 44, 45, 46, 47, 48, 68, 51, 53, 55, 56, 57, 58, 59, 60, 61, 62]
def sg (k : Nat) : Int := ((signsL.getD k 0).toNat : Int)
def kd (k : Nat) : Int := kindsL.getD k 0
def oneFrom (c : Int) : List (UInt8 × Int) → Int
  | [] => 0
  | (x, k) :: r => if (x.toNat : Int) = c then k else oneFrom c r
def oneK (c : Int) : Int := oneFrom c (signsL.zip kindsL)
theorem one_sign (k : Nat) (hk : k < 20) : ∀ w : World, (Instr.index 9 (.string ⟨#[40, 41, 123, 125, 91, 93, 44, 59, 61, 33, 60, 62, 43, 45, 42, 47, 37, 38, 124, 94]⟩) (.int .i64 (k : Int))).run Try.prog w = .ok (.int .u8 (sg k)) w := by
  intro w
  have e : (⟨#[40, 41, 123, 125, 91, 93, 44, 59, 61, 33, 60, 62, 43, 45, 42, 47, 37, 38, 124, 94]⟩ : ByteArray) = ⟨signsL.toArray⟩ := rfl
  have hl : k < signsL.length := by simpa [signsL] using hk
  have h1 : (⟨signsL.toArray⟩ : ByteArray)[k]? = some (signsL.getD k 0) := by
    have hl' : k < (⟨signsL.toArray⟩ : ByteArray).size := hl
    rw [getElem?_pos _ k hl']
    simp [List.getD_eq_getElem?_getD, List.getElem?_eq_getElem hl]
    rfl
  rw [e]
  have h0 : (0 : Int) ≤ (k : Int) := by omega
  simp [Instr.index, run_underlying Try.underlying9, asIntOf, h0, h1, sg, go_sem]
def kindsV : Array Value := (kindsL.map (Value.int .i64)).toArray
theorem kindsV_size : kindsV.size = 20 := rfl
theorem kindsV_one : ∀ v ∈ kindsV.toList, v.oneCell' = true := by
  intro v hv
  simp [kindsV] at hv
  obtain ⟨x, _, rfl⟩ := hv
  rfl
theorem kind_at (k : Nat) (hk : k < 20) : ∀ w : World, (Instr.index 75 (.agg kindsV) (.int .i64 (k : Int))).run Try.prog w = .ok (.int .i64 (kd k)) w := by
  intro w
  refine run_index_agg 75 3 20 _ .i64 k _ Try.underlying75 Try.underlying3 rfl (by kernel_rfl) hk ?_
  have hl : k < kindsL.length := by simpa [kindsL] using hk
  simp [kindsV, kd, List.getD_eq_getElem?_getD, List.getElem?_eq_getElem hl]
attribute [irreducible] kindsV
theorem one_drop {k : Nat} (hk : k < 20) : (signsL.zip kindsL).drop k = (signsL.getD k 0, kd k) :: (signsL.zip kindsL).drop (k + 1) := by
  have hl : k < (signsL.zip kindsL).length := by simpa [signsL, kindsL] using hk
  have h1 : k < signsL.length := by simpa [signsL] using hk
  have h2 : k < kindsL.length := by simpa [kindsL] using hk
  rw [List.drop_eq_getElem_cons hl, List.getElem_zip]
  simp [kd, List.getD_eq_getElem?_getD, List.getElem?_eq_getElem h1, List.getElem?_eq_getElem h2]
theorem one_miss {c : Int} {k : Nat} (hk : k < 20) (h : oneK c = oneFrom c ((signsL.zip kindsL).drop k)) (hne : (sg k == c) = false) : oneK c = oneFrom c ((signsL.zip kindsL).drop (k + 1)) := by
  rw [h, one_drop hk, oneFrom, if_neg (by simpa [sg] using hne)]
theorem one_hit {c : Int} {k : Nat} (hk : k < 20) (h : oneK c = oneFrom c ((signsL.zip kindsL).drop k)) (he : (sg k == c) = true) : kd k = oneK c := by
  rw [h, one_drop hk, oneFrom, if_pos (by simpa [sg] using he)]
set_option maxHeartbeats 1000000 in
theorem one_any (c : Int) (w : World) :
    Calls Try.prog 45 #[.int .u8 c] w fun e w' => e = .returned (.int .i64 (oneK c)) ∧ Below w.heap.size w w' := by
  have hst := store_alloc (P := Try.prog) w #[.int .i64 0, .int .i64 0, .int .i64 0, .int .i64 0, .int .i64 0, .int .i64 0, .int .i64 0, .int .i64 0, .int .i64 0, .int .i64 0, .int .i64 0, .int .i64 0, .int .i64 0, .int .i64 0, .int .i64 0, .int .i64 0, .int .i64 0, .int .i64 0, .int .i64 0, .int .i64 0] kindsV 75 (by rw [kindsV_size]; rfl) kindsV_one
  have hsz := kindsV_size
  go_enter Try.func45, Try.ntmps45
  go_wp2_with (first | (refine wpList_build_lit rfl 75 _ rfl kindsV (by unfold kindsV; kernel_rfl) ?_) | (refine wpList_load_row rfl 75 (.tmp 3) rfl w.heap.size rfl 75 kindsV (0, 0) _ (heap_alloc_new w _) Try.underlying75 rfl (by rw [kindsV_size]; kernel_rfl) ?_))
  clear hst
  go_loop [8] (fun i => ∃ k : Nat, k ≤ 20 ∧ i = .int .i64 k ∧ Hid (oneK c = oneFrom c ((signsL.zip kindsL).drop k))) (fun i => 20 - (intOf i).toNat)
  case atStart => exact ⟨0, by omega, rfl, Lib.hid (by rw [List.drop_zero]; rfl)⟩
  case round =>
    obtain ⟨k, hk, rfl, HK⟩ := hrel
    by_cases hlt : k < 20
    · have hix := kind_at k hlt
      have hsx := one_sign k hlt
      cases hq : (sg k == c)
      · have HN := Lib.hid (one_miss hlt HK.out hq)
        go_wp2
        go_round
        case rel => exact ⟨k + 1, by omega, by go_num, HN⟩
        case measure => simp [intOf]; omega
      · have HN := Lib.hid (one_hit hlt HK.out hq)
        go_wp2
        go_ret
        exact ⟨ret_int HN.out, (Below.refl _ _).alloc (Nat.le_refl _) _⟩
    · obtain rfl : k = 20 := by omega
      have HN := Lib.hid HK.out
      go_wp2
      go_ret
      exact ⟨ret_int (by rw [HN.out]; rfl), (Below.refl _ _).alloc (Nat.le_refl _) _⟩
end Go.Proofs.Yteenkeccpfgffaa
