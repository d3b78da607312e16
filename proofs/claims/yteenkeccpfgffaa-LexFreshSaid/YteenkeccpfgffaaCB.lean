/- apart, plain: lists marked, lists grown (chapter 2). -/
import Derived.Test.YteenkeccpfgffaaCA
set_option linter.unusedVariables false
set_option linter.unusedSimpArgs false
namespace Go.Proofs.Yteenkeccpfgffaa
open Go.RowKit Go.Proofs.YteenkeccpfgffaaW.PrintWords Go.Proofs.YteenkeccpfgffaaW.PrintLast Go.Proofs.YteenkeccpfgffaaW.PrintMore

theorem flatTok : Flat kTok := flat_iso (flat_pair flat_scalar (flat_pair flat_scalar (flat_pair flat_scalar flat_scalar)))
theorem info28 : (Try.prog.info? 28).map (fun i => (i.zero, i.size, i.bytes)) = some (some (.slice none 0 0), 1, 24) := by kernel_rfl
theorem kH_cell {g n c base : Nat} {ok : Nat → Prop} {xs : List Hd} {w : World} (h : kH.R 28 w base ok (.slice (some ⟨g, 0, none⟩) n c) xs) (i : Nat) (hi : i < n) :
    w.cell? ⟨g, i, none⟩ = some (encH (xs.getD i zH)) ∧ w.frozen? ⟨g, i, none⟩ = false := Kd.R_celln (enc := encH) (h1 := encH_one) zH h (i : Int) (by omega) (by omega)
def mkT (i j : Nat) : Tok := ⟨-1 - (i : Int), (j : Int), 0, ⟨#[]⟩⟩
def marks (i n : Nat) : List Tok := (List.range n).map (mkT i)
def fm (i : Nat) : Tok := ⟨-1000000 - (i : Int), 0, 0, ⟨#[]⟩⟩
theorem marks_len (i n : Nat) : (marks i n).length = n := by simp [marks]
theorem marks_of {i n : Nat} {xs : List Tok} (hn : xs.length = n) (h : ∀ q, q < n → xs.getD q Tok.nil = mkT i q) : xs = marks i n := by
  refine List.ext_getElem (by rw [hn, marks_len]) (fun j h1 h2 => ?_)
  have := h j (by omega)
  rw [List.getD_eq_getElem?_getD, List.getElem?_eq_getElem h1] at this
  simp only [Option.getD_some] at this
  rw [this]
  simp [marks]
theorem blk_diff {w : World} {g : Nat} {cs cs' : Array Value} {t t' : TypeId} (h : w.heap[g]? = some (.cells cs t (0, 0))) (h' : w.heap[g]? = some (.cells cs' t' (0, 0))) : t = t' := by
  rw [h] at h'
  injection h' with h'
  injection h' with _ h'
def tokSet (w : World) (g i : Nat) (x : Tok) : World := (((w.setCell ⟨g, i * 4, none⟩ (.int .i64 x.kind)).setCell ⟨g, i * 4 + 1, none⟩ (.int .i64 x.at_)).setCell ⟨g, i * 4 + 2, none⟩ (.int .i64 x.value)).setCell ⟨g, i * 4 + 3, none⟩ (.string x.name)
theorem tok_put {w : World} {base g n c : Nat} {xs : List Tok} {ok : Nat → Prop} (h : kTok.R 33 w base ok (.slice (some ⟨g, 0, none⟩) n c) xs) (i : Nat) (hi : i < n) (x : Tok) :
    (∃ y : Tok, (w.cell? ⟨g, i * 4, none⟩ = some (.int .i64 y.kind) ∧ w.cell? ⟨g, i * 4 + 1, none⟩ = some (.int .i64 y.at_) ∧ w.cell? ⟨g, i * 4 + 2, none⟩ = some (.int .i64 y.value) ∧ w.cell? ⟨g, i * 4 + 3, none⟩ = some (.string y.name)) ∧
      (w.frozen? ⟨g, i * 4, none⟩ = false ∧ w.frozen? ⟨g, i * 4 + 1, none⟩ = false ∧ w.frozen? ⟨g, i * 4 + 2, none⟩ = false ∧ w.frozen? ⟨g, i * 4 + 3, none⟩ = false)) ∧
    kTok.R 33 (tokSet w g i x) base ok (.slice (some ⟨g, 0, none⟩) n c) (xs.set i x) ∧ w.grownBy (tokSet w g i x) (some g) := by
  have hl := (Kd.R_reads' h).1
  obtain ⟨ce, hcl, hM, hcc, hfr⟩ := Kd.R_elem h Tok.nil (i : Int) (by omega) (by omega)
  have hop := kTok_open (kTok.K_of_M hM)
  have HP := Kd.R_seg h (i : Int) (by omega) (by omega) (seg := [.int .i64 x.kind, .int .i64 x.at_, .int .i64 x.value, .string x.name]) (j := 0) hcl hcc (show 4 ≤ 4 from by decide) (x' := x) (by rw [hop]; exact kTok_mkM _ _ _ x) (fun _ hk => hk)
  rw [hop] at hcc
  refine ⟨⟨_, ⟨hcc 0 _ rfl, hcc 1 _ rfl, hcc 2 _ rfl, hcc 3 _ rfl⟩, ⟨hfr 0, hfr 1, hfr 2, hfr 3⟩⟩, ?_⟩
  exact HP
/-- Cells that are read lie in one block. -/
theorem C_blk {w w' : World} {g off n : Nat} {xs : List Tok} (h : kTok.C w (some ⟨g, off, none⟩) n xs) (hb : w'.heap[g]? = w.heap[g]?) : kTok.C w' (some ⟨g, off, none⟩) n xs := by
  refine ⟨h.1, h.2.1, fun hn => ?_⟩
  obtain ⟨ad, e, hc⟩ := h.2.2 hn
  injection e with e
  subst e
  refine ⟨_, rfl, fun j p hj => ?_⟩
  obtain ⟨c, hcl, hK, hcell⟩ := hc j p hj
  refine ⟨c, hcl, ?_, fun i u hu => (World.cell?_of_block ?_).trans (hcell i u hu)⟩
  · rw [kTok_open hK]
    exact kTok.K_of_M (kTok_mkM w' 0 (fun _ => True) p)
  · have e : ((⟨g, off, none⟩ : Addr).add (j * kTok.sz + i)).block = g := by unfold Addr.add; split <;> rfl
    rw [e]; exact hb
end Go.Proofs.Yteenkeccpfgffaa
