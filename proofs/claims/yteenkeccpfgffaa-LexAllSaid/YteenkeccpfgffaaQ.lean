/- The reference's words and signs (quernref2): arrays (chapter 2). -/
import Derived.Test.YteenkeccpfgffaaP
set_option linter.unusedVariables false
set_option linter.unusedSimpArgs false
namespace Go.Proofs.Yteenkeccpfgffaa
open Go.RowKit Go.Proofs.YteenkeccpfgffaaW.PrintWords Go.Proofs.YteenkeccpfgffaaW.PrintLast Go.Proofs.YteenkeccpfgffaaW.PrintMore

def zeroStr (n : Nat) : Array Value := Array.replicate n (.string ⟨#[]⟩)
theorem words_store (w : World) : (storeCells ⟨w.heap.size, 0, none⟩ wordsV.toList).run Try.prog (w.alloc (.cells #[.string ⟨#[]⟩, .string ⟨#[]⟩, .string ⟨#[]⟩, .string ⟨#[]⟩, .string ⟨#[]⟩, .string ⟨#[]⟩, .string ⟨#[]⟩, .string ⟨#[]⟩, .string ⟨#[]⟩, .string ⟨#[]⟩, .string ⟨#[]⟩, .string ⟨#[]⟩, .string ⟨#[]⟩, .string ⟨#[]⟩, .string ⟨#[]⟩, .string ⟨#[]⟩, .string ⟨#[]⟩, .string ⟨#[]⟩] 65)) = .ok () (w.alloc (.cells wordsV 65)) :=
  store_alloc (P := Try.prog) w _ wordsV 65 (by rw [wordsV_size]; rfl) wordsV_one
/-- The result of a function that hands back one array or struct that lies in memory. -/
theorem row_result {P : Program} {fn : Func} {tmps : Array Value} {W : World} {g : Nat} {t ty : TypeId} {cs : Array Value} {fr : Nat × Nat} {d : TypeDesc} (hr : fn.results = #[.cell 0 ty]) (hp : tmps.getD 0 undef = .pointer (some ⟨g, 0, none⟩))
    (hg : W.heap[g]? = some (.cells cs t fr)) (hu : P.underlying ty = some d) (hd : (match d with | .struct _ | .array _ _ => true | _ => false) = true) (hi : (P.info? ty).map (·.size) = some cs.size) : (results fn tmps).run P W = .ok (.agg cs) W :=
  results_cell_row hr tmps W g t cs fr d hp hg hu hd hi
set_option maxHeartbeats 1000000 in
theorem words_any (w : World) : Calls Try.prog 38 #[] w fun e w' => e = .returned (.agg wordsV) ∧ Below w.heap.size w w' := by
  have hst := words_store w
  have hsz := wordsV_size
  go_enter Try.func38, Try.ntmps38
  go_wp2_with (refine wpList_build_lit rfl 65 _ rfl wordsV (by unfold wordsV; kernel_rfl) ?_)
  clear hst
  refine bodyPost_ret (v := .agg wordsV) (by exact row_result Try.results38 rfl (heap_alloc_new w _) Try.underlying65 rfl (by rw [hsz]; kernel_rfl)) rfl ⟨rfl, (Below.refl _ _).alloc (Nat.le_refl _) _⟩

def signStrs : List ByteArray := [⟨#[40]⟩, ⟨#[41]⟩, ⟨#[123]⟩, ⟨#[125]⟩, ⟨#[91]⟩, ⟨#[93]⟩, ⟨#[44]⟩, ⟨#[59]⟩, ⟨#[61]⟩, ⟨#[61, 61]⟩, ⟨#[33, 61]⟩, ⟨#[60]⟩, ⟨#[60, 61]⟩, ⟨#[62]⟩, ⟨#[62, 61]⟩, ⟨#[43]⟩, ⟨#[45]⟩, ⟨#[42]⟩, ⟨#[47]⟩, ⟨#[37]⟩, ⟨#[38]⟩, ⟨#[124]⟩, ⟨#[94]⟩, ⟨#[38, 94]⟩, ⟨#[60, 60]⟩, ⟨#[62, 62]⟩, ⟨#[38, 38]⟩, ⟨#[124, 124]⟩, ⟨#[33]⟩]
def signsV : Array Value := (signStrs.map Value.string).toArray
theorem signsV_size : signsV.size = 29 := rfl
theorem signsV_one : ∀ v ∈ signsV.toList, v.oneCell' = true := by
  intro v hv
  simp [signsV] at hv
  obtain ⟨x, _, rfl⟩ := hv
  rfl
def ss (k : Nat) : ByteArray := signStrs.getD k ⟨#[]⟩
theorem signsV_get (k : Nat) (hk : k < 29) : signsV[k]? = some (.string (ss k)) := by
  have hl : k < signStrs.length := by simpa [signStrs] using hk
  simp [signsV, ss, List.getD_eq_getElem?_getD, List.getElem?_eq_getElem hl]
theorem wordsV_get (k : Nat) (hk : k < 18) : wordsV[k]? = some (.string (wd k)) := by
  have hl : k < wordsL.length := by simpa [wordsL] using hk
  unfold wordsV
  simp [wd, List.getD_eq_getElem?_getD, List.getElem?_eq_getElem hl]
attribute [irreducible] signsV
theorem signs_store (w : World) : (storeCells ⟨w.heap.size, 0, none⟩ signsV.toList).run Try.prog (w.alloc (.cells #[.string ⟨#[]⟩, .string ⟨#[]⟩, .string ⟨#[]⟩, .string ⟨#[]⟩, .string ⟨#[]⟩, .string ⟨#[]⟩, .string ⟨#[]⟩, .string ⟨#[]⟩, .string ⟨#[]⟩, .string ⟨#[]⟩, .string ⟨#[]⟩, .string ⟨#[]⟩, .string ⟨#[]⟩, .string ⟨#[]⟩, .string ⟨#[]⟩, .string ⟨#[]⟩, .string ⟨#[]⟩, .string ⟨#[]⟩, .string ⟨#[]⟩, .string ⟨#[]⟩, .string ⟨#[]⟩, .string ⟨#[]⟩, .string ⟨#[]⟩, .string ⟨#[]⟩, .string ⟨#[]⟩, .string ⟨#[]⟩, .string ⟨#[]⟩, .string ⟨#[]⟩, .string ⟨#[]⟩] 66)) = .ok () (w.alloc (.cells signsV 66)) :=
  store_alloc (P := Try.prog) w _ signsV 66 (by rw [signsV_size]; rfl) signsV_one
set_option maxHeartbeats 1000000 in
theorem signs_any (w : World) : Calls Try.prog 41 #[] w fun e w' => e = .returned (.agg signsV) ∧ Below w.heap.size w w' := by
  have hst := signs_store w
  have hsz := signsV_size
  go_enter Try.func41, Try.ntmps41
  go_wp2_with (refine wpList_build_lit rfl 66 _ rfl signsV (by unfold signsV; kernel_rfl) ?_)
  clear hst
  refine bodyPost_ret (v := .agg signsV) (by exact row_result Try.results41 rfl (heap_alloc_new w _) Try.underlying66 rfl (by rw [hsz]; kernel_rfl)) rfl ⟨rfl, (Below.refl _ _).alloc (Nat.le_refl _) _⟩
end Go.Proofs.Yteenkeccpfgffaa
