/- The reference's token (quernref2), a name (chapter 2). -/
import Derived.Test.YteenkeccpfgffaaQ
set_option linter.unusedVariables false
set_option linter.unusedSimpArgs false
namespace Go.Proofs.Yteenkeccpfgffaa
open Go.RowKit Go.Proofs.YteenkeccpfgffaaW.PrintWords Go.Proofs.YteenkeccpfgffaaW.PrintLast Go.Proofs.YteenkeccpfgffaaW.PrintMore

theorem mid_cut (A : Option Addr) (n c a m : Nat) (l : List Int) (hl : l.length = n) (hm : a + m ≤ n) (hc : n ≤ c) :
    ∃ A' : Option Addr, (∀ W : World, (Instr.slice 22 (.slice A n c) (some (.int .i64 (a : Int))) (some (.int .i64 ((a : Int) + (m : Int)))) none).run Try.prog W = .ok (.slice A' m (c - a)) W) ∧
      (∀ W : World, ReadsInt W .u8 A n l → ReadsInt W .u8 A' m ((l.drop a).take m)) := by
  obtain ⟨i5, hi5, hs5⟩ := info5s
  subst hl
  obtain ⟨A', h1, h2, _⟩ := print_mid_int (P := Try.prog) (k := .u8) 22 5 Try.underlying22 hi5 hs5 A c l (a : Int) ((a : Int) + m) (by omega) (by omega) (by omega) hc
  have e2 : ((a : Int) + m).toNat = a + m := by omega
  rw [e2, Int.toNat_natCast] at h1 h2
  have e3 : (l.take (a + m)).drop a = (l.drop a).take m := by rw [List.drop_take]; congr 1; omega
  have e4 : ((l.drop a).take m).length = m := by rw [List.length_take, List.length_drop]; omega
  rw [e3, e4] at h1
  rw [e3, e4] at h2
  exact ⟨A', h1, h2⟩
/-- What name hands back, when the words are gone through from k on. -/
def nameFrom (p : Int) (s : ByteArray) (k : Nat) : Tok := if wordFrom s (wordsL.drop k) k = 1 then ⟨1, p, 0, s⟩ else ⟨wordFrom s (wordsL.drop k) k, p, 0, ⟨#[]⟩⟩
theorem word_miss2 {s : ByteArray} {k : Nat} (hk : k < 18) (hne : ((wd k).toList == s.toList) = false) : wordFrom s (wordsL.drop k) k = wordFrom s (wordsL.drop (k + 1)) (k + 1) := by
  have hd : wordsL.drop k = wd k :: wordsL.drop (k + 1) := by
    rw [List.drop_eq_getElem_cons (by simpa [wordsL] using hk)]
    simp [wd, List.getD_eq_getElem?_getD, List.getElem?_eq_getElem (show k < wordsL.length by simpa [wordsL] using hk)]
  rw [hd, wordFrom, if_neg (fun h => by simp [ByteArray.toList_eq, h] at hne)]
theorem word_hit2 {s : ByteArray} {k : Nat} (hk : k < 18) (he : ((wd k).toList == s.toList) = true) : wordFrom s (wordsL.drop k) k = 10 + (k : Int) := by
  have hd : wordsL.drop k = wd k :: wordsL.drop (k + 1) := by
    rw [List.drop_eq_getElem_cons (by simpa [wordsL] using hk)]
    simp [wd, List.getD_eq_getElem?_getD, List.getElem?_eq_getElem (show k < wordsL.length by simpa [wordsL] using hk)]
  rw [hd, wordFrom, if_pos (by rw [beq_iff_eq, ByteArray.toList_eq, ByteArray.toList_eq] at he; exact he.symm)]

def Tok.vals (x : Tok) : Array Value := #[.int .i64 x.kind, .int .i64 x.at_, .int .i64 x.value, .string x.name]
def RefPost (w w' : World) (x : Tok) (err : Int) (q : Nat) (e : Ending) : Prop :=
  e = .returned (.tuple #[.agg #[.int .i64 x.kind, .int .i64 x.at_, .int .i64 x.value, .string x.name], .int .i64 (q : Int), .int .i64 err]) ∧ Below w.heap.size w w'
theorem tok_results3 {fn : Func} {tmps : Array Value} {W : World} {g : Nat} {err q : Int} {cs : Array Value} (hr : fn.results = #[.cell 4 33, .tmp 5, .tmp 6]) (hp : tmps.getD 4 undef = .pointer (some ⟨g, 0, none⟩)) (hq : tmps.getD 5 undef = .int .i64 q) (he : tmps.getD 6 undef = .int .i64 err)
    (hg : W.heap[g]? = some (.cells cs 33 (0, 0))) (hc : cs.size = 4) : (results fn tmps).run Try.prog W = .ok (.tuple #[.agg cs, .int .i64 q, .int .i64 err]) W := by
  have h := results_list (P := Try.prog) (tmps := tmps) (w := W) (fn := fn) (rs := [.cell 4 33, .tmp 5, .tmp 6]) (vs := [.agg cs, tmps.getD 5 undef, tmps.getD 6 undef]) hr (by simp) (.cell g 33 cs (0, 0) _ hp hg Try.underlying33 rfl (by rw [hc]; kernel_rfl) (.tmp (.tmp .nil)))
  rw [he, hq] at h
  exact h
theorem below_new {w w1 : World} (h : Below w.heap.size w w1) {g : Nat} (hg : w.heap.size ≤ g) (j : Nat) (v : Value) : Below w.heap.size w (w1.setCell ⟨g, j, none⟩ v) := h.setCell hg v

set_option maxHeartbeats 4000000 in
theorem ref_name (A : Option Addr) (n c p : Nat) (l : List Int) (w : World) (x : Tok) (err : Int) (q : Nat) (hp : p < n) (hnc : n ≤ c) (hr : ReadsInt w .u8 A n l) (hb : byteRange l) (h3 : cls (rd l p) = 3) (h : nameAt l p = (x, err, q)) :
    Calls Try.prog 30 #[.slice A n c, .int .i64 (p : Int)] w fun e w' => RefPost w w' x err q e := by
  obtain ⟨ad, hA, hcell⟩ := hr.at_ (p : Int) (by omega) (by omega)
  obtain rfl := hA
  rw [Int.toNat_natCast] at hcell
  have hbk := hb p
  have hn := hr.2.1
  have hcell2 := (World.grownBy_alloc w (.cells #[.int .i64 0, .int .i64 0, .int .i64 0, .string ⟨#[]⟩] 33) none).cell hcell (by simp)
  have h3b : (cls (rd l p) == 3) = true := by simpa using h3
  unfold nameAt at h
  have hstr : strL true (l.drop p) ≤ n - p := by
    have h := strL_le true (l.drop p)
    rw [List.length_drop, hr.1] at h
    exact h
  have HR := Lib.hid hr
  have hl := hr.1
  clear hr hb h3
  generalize rd l p = cv at *
  by_cases h64 : 64 < strL true (l.drop p)
  · rw [if_pos h64] at h
    obtain ⟨rfl, rfl, rfl⟩ := tri h
    generalize hm : strL true (l.drop p) = m at *
    have HM := Lib.hid hm
    clear hm h
    go_enter Try.func30, Try.ntmps30
    go_wp2_with (first | (go_at_call 36; refine (letter_any _ _).mono ?_; rintro e w' ⟨rfl, rfl⟩) | (go_at_call 37; refine (row_any (some ad) n c p true l _ (by exact reads_alloc HR.out _) (by omega)).mono ?_; rintro e w' ⟨rfl, rfl⟩; rw [HM.out]))
    refine bodyPost_ret (v := .tuple #[.agg Tok.nil.cells, .int .i64 (p : Int), .int .i64 21]) (by exact tok_results3 Try.results30 rfl rfl rfl (heap_alloc_new w _) rfl) rfl ⟨rfl, (Below.refl _ _).alloc (Nat.le_refl _) _⟩
  · rw [if_neg h64] at h
    obtain ⟨rfl, rfl, rfl⟩ := tri h
    generalize hm : strL true (l.drop p) = m at *
    obtain ⟨A', hsl, hrd⟩ := mid_cut (some ad) n c p m l hl (by omega) hnc
    have HM := Lib.hid hm
    have HX := Lib.hid (hrd _ (reads_alloc HR.out (.cells #[.int .i64 0, .int .i64 0, .int .i64 0, .string ⟨#[]⟩] 33)))
    have hcv := string_of_reads (P := Try.prog) (c := c - p) Try.underlying22 Try.underlying5 Try.underlying9 HX.out
    generalize strOfNums ((l.drop p).take m) = s at *
    clear hm h hrd
    go_enter Try.func30, Try.ntmps30
    go_wp2_with (first | (go_at_call 36; refine (letter_any _ _).mono ?_; rintro e w' ⟨rfl, rfl⟩) | (go_at_call 37; refine (row_any (some ad) n c p true l _ (by exact reads_alloc HR.out _) (by omega)).mono ?_; rintro e w' ⟨rfl, rfl⟩; rw [HM.out]) | (go_at_call 38; refine (words_any _).mono ?_; rintro e w' ⟨rfl, hb1⟩; have hst := words_store w'; have hsz := wordsV_size; have hR := below_row (heap_alloc_new w _) hb1; have t0 := row_cell hR; have HR1 := Lib.hid (row_alloc hR (.cells wordsV 65)); have HB1 := Lib.hid (below_then ((Below.refl _ _).alloc (Nat.le_refl _) _) (by simp) hb1); have hlt1 := (Array.getElem?_eq_some_iff.1 hR).1; have hne1 : w.heap.size ≠ w'.heap.size := Nat.ne_of_lt hlt1; have HR2 := Lib.hid hR; clear hR hb1))
    clear hst hcv hsl
    go_loop [11] (fun i => ∃ k : Nat, k ≤ 18 ∧ i = .int .i64 k ∧ Hid (nameTok p s = nameFrom p s k)) (fun i => 18 - (intOf i).toNat)
    case atStart => exact ⟨0, by omega, rfl, Lib.hid rfl⟩
    case round =>
      obtain ⟨k, hk, rfl, HK⟩ := hrel
      by_cases hlt : k < 18
      · have hwk : (w'.alloc (.cells wordsV 65)).cell? ⟨w'.heap.size, k, none⟩ = some (.string (wd k)) := by
          rw [cell_of_row _ _ _ _ _ _ (heap_alloc_new w' _)]
          exact wordsV_get k hlt
        cases hq : ((wd k).toList == s.toList)
        · have HN := Lib.hid (word_miss2 hlt hq)
          go_wp2
          go_round
          case rel => exact ⟨k + 1, by omega, by go_num, Lib.hid (by rw [HK.out]; unfold nameFrom; rw [HN.out])⟩
          case measure => simp [intOf]; omega
        · have HN := Lib.hid (word_hit2 hlt hq)
          go_wp2
          have e : nameTok p s = ⟨10 + (k : Int), p, 0, ⟨#[]⟩⟩ := by
            rw [HK.out]
            unfold nameFrom
            rw [HN.out, if_neg (by omega)]
          rw [e]
          refine bodyPost_ret (v := .tuple #[.agg #[.int .i64 (10 + (k : Int)), .int .i64 (p : Int), .int .i64 0, .string ⟨#[]⟩], .int .i64 ((p + m : Nat) : Int), .int .i64 0]) (by exact tok_results3 Try.results30 rfl rfl rfl (row_alloc (four_row HR2.out) _) rfl) rfl ⟨rfl, ?_⟩
          have hb := HB1.out
          exact (below_new (below_new (below_new (below_new hb (Nat.le_refl _) _ _) (Nat.le_refl _) _ _) (Nat.le_refl _) _ _) (Nat.le_refl _) _ _).alloc (by simp [World.setCell]; exact hb.size) _
      · obtain rfl : k = 18 := by omega
        go_wp2
        have e : nameTok p s = ⟨1, p, 0, s⟩ := by
          rw [HK.out]
          unfold nameFrom
          rw [if_pos (show wordFrom s (wordsL.drop 18) 18 = 1 from rfl)]
        rw [e]
        refine bodyPost_ret (v := .tuple #[.agg #[.int .i64 1, .int .i64 (p : Int), .int .i64 0, .string s], .int .i64 ((p + m : Nat) : Int), .int .i64 0]) (by exact tok_results3 Try.results30 rfl rfl rfl (row_alloc (four_row HR2.out) _) rfl) rfl ⟨rfl, ?_⟩
        have hb := HB1.out
        exact (below_new (below_new (below_new (below_new hb (Nat.le_refl _) _ _) (Nat.le_refl _) _ _) (Nat.le_refl _) _ _) (Nat.le_refl _) _ _).alloc (by simp [World.setCell]; exact hb.size) _
end Go.Proofs.Yteenkeccpfgffaa
