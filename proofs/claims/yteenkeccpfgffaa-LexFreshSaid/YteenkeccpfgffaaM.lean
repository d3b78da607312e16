/- num, same, alive of quernlaw2 (chapter 2). -/
import Derived.Test.YteenkeccpfgffaaL
import Derived.Laws.StructEq
import Derived.Lib.SlBytesConst
import Derived.Test.YteenkeccpfgffaaWEqStruct
set_option linter.unusedVariables false
set_option linter.unusedSimpArgs false
namespace Go.Proofs.Yteenkeccpfgffaa
open Go.RowKit Go.Proofs.YteenkeccpfgffaaW.PrintWords Go.Proofs.YteenkeccpfgffaaW.PrintLast Go.Proofs.YteenkeccpfgffaaW.PrintMore

theorem alive_lex : lexAll [120, 49, 32, 60, 61, 32, 55, 32, 58] = ([⟨1, 0, 0, ⟨#[120, 49]⟩⟩, ⟨52, 3, 0, ⟨#[]⟩⟩, ⟨2, 6, 7, ⟨#[]⟩⟩], 8, 20) := by kernel_rfl

theorem num_any (n : Int) (w : World) : Calls Try.prog 18 #[.int .i64 n] w fun e w' => e = .returned (.int .i64 n) ∧ w = w' := by
  go_enter Try.func18, Try.ntmps18
  go_wp2
  go_ret
  exact ⟨rfl, rfl⟩

theorem eqA33 (d : Nat) (w : World) (x0 y0 : Int) (x1 y1 : Int) (x2 y2 : Int) (x3 y3 : ByteArray) :
    (Op.equalIn (d + 2) 33 (.agg #[.int .i64 x0, .int .i64 x1, .int .i64 x2, .string x3]) (.agg #[.int .i64 y0, .int .i64 y1, .int .i64 y2, .string y3])).run Try.prog w = .ok (x0 == y0 && (x1 == y1 && (x2 == y2 && (x3.toList == y3.toList)))) w := by
  refine eqA_of Try.underlying33 (by kernel_rfl) ?_
  refine eqf_cons (by rfl) (by go_simp; rfl) (by go_simp; rfl) (by go_simp) ?_
  refine eqf_cons (by rfl) (by go_simp; rfl) (by go_simp; rfl) (by go_simp) ?_
  refine eqf_cons (by rfl) (by go_simp; rfl) (by go_simp; rfl) (by go_simp) ?_
  exact eqf_last (by rfl) (by go_simp; rfl) (by go_simp; rfl) (by go_simp)
theorem tok_cells {w : World} {A : Option Addr} {n : Nat} {xs : List Tok} (h : kTok.C w A n xs) (k : Nat) (hk : k < n) : ∃ ad, A = some ad ∧ w.cell? (ad.add (k * 4)) = some (.int .i64 (xs.getD k Tok.nil).kind) ∧ w.cell? ⟨(ad.add (k * 4)).block, (ad.add (k * 4)).off + 1, none⟩ = some (.int .i64 (xs.getD k Tok.nil).at_) ∧ w.cell? ⟨(ad.add (k * 4)).block, (ad.add (k * 4)).off + 2, none⟩ = some (.int .i64 (xs.getD k Tok.nil).value) ∧ w.cell? ⟨(ad.add (k * 4)).block, (ad.add (k * 4)).off + 3, none⟩ = some (.string (xs.getD k Tok.nil).name) := by
  obtain ⟨ad, c, e, _, hK, hc0⟩ := Kd.C_get h Tok.nil (k : Int) (by omega) (by omega)
  rw [Int.toNat_natCast] at hK hc0
  have hc : ∀ j u, c[j]? = some u → w.cell? (ad.add (k * 4 + j)) = some u := hc0
  obtain rfl := kTok_open hK
  exact ⟨ad, e, hc 0 _ rfl, by rw [← add_field _ _ 1 (by omega)]; exact hc 1 _ rfl, by rw [← add_field _ _ 2 (by omega)]; exact hc 2 _ rfl, by rw [← add_field _ _ 3 (by omega)]; exact hc 3 _ rfl⟩

attribute [local go_sem high] eqA33
set_option maxHeartbeats 2000000 in
theorem same_yes (A1 A2 : Option Addr) (n c1 c2 : Nat) (xs : List Tok) (w : World) (h1 : kTok.C w A1 n xs) (h2 : kTok.C w A2 n xs) :
    Calls Try.prog 14 #[.slice A1 n c1, .slice A2 n c2] w fun e w' => e = .returned (.bool true) ∧ ∃ k, w' = w.drewN k := by
  have hn : n ≤ 9223372036854775807 := h1.2.1
  have H1 := Lib.hid h1
  have H2 := Lib.hid h2
  clear h1 h2
  go_enter Try.func14, Try.ntmps14
  go_wp2
  go_loopw [5] (fun i wr => ∃ k : Nat, k ≤ n ∧ i = .int .i64 k ∧ ∃ q, wr = w.drewN q) (fun i _ => n - (intOf i).toNat)
  case atStart => exact ⟨0, by omega, rfl, 0, rfl⟩
  case round =>
    obtain ⟨k, hk, rfl, q, rfl⟩ := hrel
    by_cases hlt : k < n
    · obtain ⟨a1, e1, p0, p1, p2, p3⟩ := tok_cells H1.out k hlt
      obtain ⟨a2, e2, q0, q1, q2, q3⟩ := tok_cells H2.out k hlt
      obtain rfl := e1
      obtain rfl := e2
      go_wp2
      go_quiet (fail)
      go_wp2
      go_roundw
      case rel => exact ⟨k + 1, by omega, by go_num, _, rfl⟩
      case measure => simp [intOf]; omega
    · go_wp2
      go_ret
      exact ⟨rfl, _, rfl⟩

theorem R_same {w : World} {v : Value} {base e : Nat} {ok : Nat → Prop} {xs : List Tok} (h : kTok.R e w base ok v xs) : ∃ A c, v = .slice A xs.length c ∧ kTok.C w A xs.length xs := by
  obtain ⟨A, c, e, _, hc⟩ := Kd.R_reads h
  exact ⟨A, c, e, hc⟩
theorem lit_reads (w : World) (cs : List Int) (e : TypeId) (fr : Nat × Nat) (hn : cs.length ≤ 9223372036854775807) : ReadsInt (w.alloc (.cells (cs.map (Value.int .u8)).toArray e fr)) .u8 (some ⟨w.heap.size, 0, none⟩) cs.length cs := by
  refine ⟨rfl, hn, fun h0 => ⟨_, rfl, fun j hj => ?_⟩⟩
  rw [add_plain, cell_of_row _ _ _ _ _ _ (heap_alloc_new w _)]
  simp [List.getD_eq_getElem?_getD, List.getElem?_eq_getElem hj]
def aliveL : List Int := [120, 49, 32, 60, 61, 32, 55, 32, 58]
theorem aliveL_range : byteRange aliveL := by
  intro i
  unfold rd
  rcases Nat.lt_or_ge i.toNat 9 with h | h
  · generalize i.toNat = k at *
    match k, h with
    | 0, _ => decide
    | 1, _ => decide
    | 2, _ => decide
    | 3, _ => decide
    | 4, _ => decide
    | 5, _ => decide
    | 6, _ => decide
    | 7, _ => decide
    | 8, _ => decide
    | k + 9, h => omega
  · rw [List.getD_eq_getElem?_getD, List.getElem?_eq_none (by simpa [aliveL] using h)]
    decide
theorem alive_cells {w : World} {A : Option Addr} (h : kTok.C w A 3 [⟨1, 0, 0, ⟨#[120, 49]⟩⟩, ⟨52, 3, 0, ⟨#[]⟩⟩, ⟨2, 6, 7, ⟨#[]⟩⟩]) : ∃ ad, A = some ad ∧ w.cell? ⟨ad.block, ad.off + 3, none⟩ = some (.string ⟨#[120, 49]⟩) ∧ w.cell? ⟨ad.block, ad.off + 4, none⟩ = some (.int .i64 52) ∧ w.cell? ⟨ad.block, ad.off + 8 + 2, none⟩ = some (.int .i64 7) := by
  obtain ⟨ad, e, _, _, _, h3⟩ := tok_cells h 0 (by omega)
  obtain ⟨ad', e', h4, _⟩ := tok_cells h 1 (by omega)
  obtain ⟨ad'', e'', _, _, h5, _⟩ := tok_cells h 2 (by omega)
  obtain rfl := Option.some.inj (e.symm.trans e')
  obtain rfl := Option.some.inj (e.symm.trans e'')
  exact ⟨ad, e, by simpa [Addr.add] using h3, by simpa [Addr.add] using h4, by simpa [Addr.add] using h5⟩
set_option maxHeartbeats 2000000 in
theorem alive_any (w : World) : Calls Try.prog 11 #[] w fun e w' => e = .returned (.bool true) ∧ Below w.heap.size w w' := by
  have hrd := Lib.hid (lit_reads w aliveL 5 (9, 10) (by decide))
  have kc := fun (w : World) (C : Array Value) (n c : Nat) => Lib.run_convert_bytes_const (P := Try.prog) w 22 5 C n c Try.underlying22 Try.underlying5
  go_enter Try.func11, Try.ntmps11
  go_wp2_with (first | (go_at_call 13; refine (tokens_any _ 9 9 aliveL _ _ _ _ (by omega) (by exact hrd.out) aliveL_range (by omega) alive_lex).mono ?_; rintro e w' ⟨v, rfl, hO, hB⟩; obtain ⟨A2, c2, rfl, hC⟩ := R_same hO; obtain ⟨ad, hA, q0, q1, q2⟩ := alive_cells hC; obtain rfl := hA; have HB := Lib.hid hB; clear hO hB hC) | (go_at_call 18; refine (num_any _ _).mono ?_; rintro e w' ⟨rfl, rfl⟩))
  go_ret
  exact ⟨rfl, below_then ((Below.refl _ _).alloc (Nat.le_refl _) _) (by simp) HB.out⟩
end Go.Proofs.Yteenkeccpfgffaa
