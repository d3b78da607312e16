/- Walks of lex.reader.name (its fault) and number (chapter 2). -/
import Derived.Test.YteenkeccpfgffaaF
set_option linter.unusedVariables false
set_option linter.unusedSimpArgs false
namespace Go.Proofs.Yteenkeccpfgffaa
open Go.RowKit Go.Proofs.YteenkeccpfgffaaW.PrintWords Go.Proofs.YteenkeccpfgffaaW.PrintLast Go.Proofs.YteenkeccpfgffaaW.PrintMore

set_option maxHeartbeats 2000000 in
theorem name_no (B : Nat) (A : Option Addr) (n c p m : Nat) (l : List Int) (w : World) (hs : RS w B A n c p) (hp : p ≤ n) (hnc : n ≤ c) (hr : ReadsInt w .u8 A n l) (hf : Far A B n) (hb : byteRange l) (hm : strL true (l.drop p) = m) (h64 : 64 < m) :
    Calls Try.prog 33 #[.pointer (some ⟨B, 0, none⟩)] w fun e w' => e = .returned (.tuple #[.agg Tok.nil.cells, .int .i64 21]) ∧ RS w' B A n c p ∧ w.grownBy w' (some B) := by
  have hn := hr.2.1
  have hstr : m ≤ n - p := by
    have h := strL_le true (l.drop p)
    rw [List.length_drop, hr.1, hm] at h
    exact h
  have HM := Lib.hid hm
  have HR := Lib.hid hr
  have HS := Lib.hid hs
  have HB := Lib.hid hb
  have HF := Lib.hid hf
  have hlen := Lib.hid hr.1
  have hlt := hs.lt
  have hne1 : B ≠ w.heap.size := by omega
  clear hr hs hb hf hm
  go_enter Try.func33, Try.ntmps33
  go_wp2_with (go_at_call 42; refine (stretch_any B true A n c p l _ (by exact (HS.out.alloc _).c0) (by exact (HS.out.alloc _).c1) hp hnc (by exact reads_alloc HR.out _) (by exact HB.out)).mono ?_; rintro e w' ⟨rfl, nq, rfl⟩; rw [HM.out])
  refine bodyPost_ret (v := .tuple #[.agg Tok.nil.cells, .int .i64 21]) (by exact tok_results Try.results33 rfl rfl (four_row (heap_alloc_new w _)) rfl) rfl ⟨rfl, ?_, ?_⟩
  · exact ((((((HS.out.alloc _).drewN nq).far hne1 _ _).far hne1 _ _).far hne1 _ _).far hne1 _ _)
  · exact grown_new (grown_new (grown_new (grown_new (grown_draw (grown_alloc (grown_refl w (some B)) _) nq) (Nat.le_refl _) _ _) (Nat.le_refl _) _ _) (Nat.le_refl _) _ _) (Nat.le_refl _) _ _

def numFrom (v : Int) : List Int → Option Int
  | [] => some v
  | c :: r => if (9223372036854775807 - (c - 48)) / 10 < v then none else numFrom (10 * v + (c - 48)) r
def NumIs (ds : List Int) (x : Int) (k : Nat) (r : Option Int) : Prop := numFrom x (ds.drop k) = r
def BigOk (x d : Int) : Prop := x ≤ (9223372036854775807 - d) / 10
theorem num_bad {ds : List Int} {x cv : Int} {k : Nat} {r : Option Int} (h : NumIs ds x k r) (hk : k < ds.length) (hc : rd ds k = cv) (hb : (9223372036854775807 - (cv - 48)) / 10 < x) : r = none := by
  unfold NumIs at h
  rw [drop_rd ds k hk, hc, numFrom, if_pos hb] at h
  exact h.symm
theorem num_go {ds : List Int} {x cv : Int} {k : Nat} {r : Option Int} (h : NumIs ds x k r) (hk : k < ds.length) (hc : rd ds k = cv) (hb : ¬ (9223372036854775807 - (cv - 48)) / 10 < x) : NumIs ds (10 * x + (cv - 48)) (k + 1) r := by
  unfold NumIs at h ⊢
  rw [drop_rd ds k hk, hc, numFrom, if_neg hb] at h
  exact h
theorem num_end {ds : List Int} {x : Int} {k : Nat} {r : Option Int} (h : NumIs ds x k r) (hk : ds.length ≤ k) : r = some x := by
  unfold NumIs at h
  rw [List.drop_eq_nil_of_le hk] at h
  exact h.symm
theorem rd_take (l : List Int) (m k : Nat) (h : k < m) : rd (l.take m) k = rd l k := by
  unfold rd
  rw [Int.toNat_natCast]
  simp [List.getD_eq_getElem?_getD, List.getElem?_take, h]
theorem tw_all {l : List Int} (b : Bool) : ∀ k, k < strL b l → strOk b (rd l k) = true := by
  intro k hk
  unfold strL at hk
  have h1 : k < l.length := Nat.lt_of_lt_of_le hk (length_tw _ _)
  have h2 : rd l k = l[k] := by simp [rd, List.getD_eq_getElem?_getD, List.getElem?_eq_getElem h1]
  have h3 : (l.takeWhile (strOk b))[k] = l[k] := (List.takeWhile_prefix (strOk b)).getElem hk
  rw [h2, ← h3]
  exact List.all_eq_true.1 List.all_takeWhile _ (List.getElem_mem hk)
theorem digit_of {c : Int} (h : strOk false c = true) : 48 ≤ c ∧ c ≤ 57 := by
  simp [strOk] at h
  unfold cls at h
  split at h
  · omega
  · split at h
    · assumption
    · split at h
      · omega
      · split at h <;> omega

def NumPost (w' : World) (B : Nat) (A : Option Addr) (n c p m : Nat) : Option Int → Ending → Prop
  | none, e => e = .returned (.tuple #[.agg Tok.nil.cells, .int .i64 22]) ∧ RS w' B A n c p
  | some v, e => e = .returned (.tuple #[.agg (Tok.mk 2 p v ⟨#[]⟩).cells, .int .i64 0]) ∧ RS w' B A n c (p + m)
theorem row_alloc {w : World} {g : Nat} {o : Obj} (h : w.heap[g]? = some o) (o2 : Obj) : (w.alloc o2).heap[g]? = some o := ((World.grownBy_alloc w o2 none).block g (Array.getElem?_eq_some_iff.1 h).1 (by simp)).trans h
theorem cell_zero {w : World} {A : Option Addr} {n : Nat} {ds : List Int} (h : ReadsInt w .u8 A n ds) (h0 : 0 < n) : ∃ ad, A = some ad ∧ w.cell? ad = some (.int .u8 (rd ds 0)) := by
  obtain ⟨ad, e, hc⟩ := h.2.2 h0
  refine ⟨ad, e, ?_⟩
  have := hc 0 h0
  rwa [show ad.add 0 = ad by unfold Addr.add; simp] at this

set_option maxHeartbeats 2000000 in
theorem number_any (B : Nat) (A : Option Addr) (n c p m : Nat) (l : List Int) (w : World) (r : Option Int) (hs : RS w B A n c p) (hp : p ≤ n) (hnc : n ≤ c) (hr : ReadsInt w .u8 A n l) (hf : Far A B n) (hb : byteRange l) (hm : strL false (l.drop p) = m) (hm0 : 0 < m) (hz : 1 < m → rd l p ≠ 48) (hN : NumIs ((l.drop p).take m) 0 0 r) :
    Calls Try.prog 34 #[.pointer (some ⟨B, 0, none⟩)] w fun e w' => NumPost w' B A n c p m r e ∧ w.grownBy w' (some B) := by
  have hn := hr.2.1
  have hstr : m ≤ n - p := by
    have h := strL_le false (l.drop p)
    rw [List.length_drop, hr.1, hm] at h
    exact h
  have hdig : ∀ k, k < m → 48 ≤ rd ((l.drop p).take m) k ∧ rd ((l.drop p).take m) k ≤ 57 := by
    intro k hk
    rw [rd_take _ _ _ hk]
    exact digit_of (tw_all false k (by omega))
  have hfst : rd ((l.drop p).take m) 0 = rd l p := by
    have := rd_take (l.drop p) m 0 hm0
    rw [show ((0 : Nat) : Int) = 0 from rfl] at this
    rw [this, rd_drop0]
  have HFST := Lib.hid hfst
  generalize hds : (l.drop p).take m = ds at *
  have HDS := Lib.hid hds
  have HDIG := Lib.hid hdig
  have HM := Lib.hid hm
  have HR := Lib.hid hr
  have HS := Lib.hid hs
  have HB := Lib.hid hb
  have HF := Lib.hid hf
  have HNN := Lib.hid hN
  have hlen := Lib.hid hr.1
  have hltB := hs.lt
  have hne1 : B ≠ w.heap.size := by omega
  have hne2 : B ≠ w.heap.size + 1 := by omega
  have c1 := hs.c1
  have f1 := hs.f1
  generalize hfv : rd l p = fv at *
  have hz' : 1 < m → (fv == 48) = false := fun h => by simpa using hz h
  have HFV := Lib.hid hfv
  clear hr hs hb hf hm hN hz hfst hds hdig hfv
  have hgd : (m ≤ 1) ∨ (1 < m ∧ (fv == 48) = false) := by
    rcases Nat.lt_or_ge 1 m with h | h
    · exact .inr ⟨h, hz' h⟩
    · exact .inl h
  clear hz'
  go_enter Try.func34, Try.ntmps34
  go_wp2_with (go_at_call 42; refine (stretch_any B false A n c p l _ (by exact (HS.out.alloc _).c0) (by exact (HS.out.alloc _).c1) hp hnc (by exact reads_alloc HR.out _) (by exact HB.out)).mono ?_; rintro e w' ⟨rfl, nq, rfl⟩; rw [HM.out])
  obtain ⟨Z, hz⟩ : ∃ Z, Z = (Obj.cells #[Value.int IntKind.i64 0, Value.int IntKind.i64 0, Value.int IntKind.i64 0, Value.string ⟨#[]⟩] 33) := ⟨_, rfl⟩
  rw [← hz]
  have HZ := Lib.hid hz
  clear hz
  refine (rest_any B A n c p _ (by exact (HS.out.alloc _).c0) (by exact (HS.out.alloc _).c1) hp).mono ?_
  rintro e w' ⟨A2, rfl, HRD2, nq2, rfl⟩
  obtain ⟨hsl, _, _, _⟩ := cut_string HRD2 hnc (reads_alloc HR.out Z) hstr
  have HX0 := (HRD2 _ .u8 l hnc (reads_alloc HR.out Z)).take_ m hstr
  rw [HDS.out] at HX0
  obtain ⟨ad, hA, hcell⟩ := cell_zero HX0 hm0
  rw [HFST.out] at hcell
  have HX := Lib.hid HX0
  clear HX0 HRD2
  obtain rfl := hA
  rcases hgd with h1 | ⟨h1, hz2⟩
  all_goals
    go_wp2
    go_loop [6, 28] (fun v i => ∃ (k : Nat) (x : Int), k ≤ m ∧ i = .int .i64 k ∧ v = .int .i64 x ∧ 0 ≤ x ∧ x ≤ 9223372036854775807 ∧ Hid (NumIs ds x k r)) (fun _ i => m - (intOf i).toNat)
    case atStart => exact ⟨0, 0, Nat.zero_le _, rfl, rfl, by omega, by omega, HNN⟩
    case round =>
      obtain ⟨k, x, hk, rfl, rfl, hx0, hx1, HK⟩ := hrel
      have hz := HZ.out
      subst hz
      by_cases hlt : k < m
      · obtain ⟨ad', hA, hcell⟩ := HX.out.at_ (k : Int) (by omega) (by omega)
        obtain rfl := Option.some.inj hA
        rw [Int.toNat_natCast] at hcell
        have hd := HDIG.out k hlt
        generalize hcv : rd ds k = cv at *
        have HCV := Lib.hid hcv
        clear hcv
        by_cases hbig : (9223372036854775807 - (cv - 48)) / 10 < x
        · have hr := num_bad HK.out (by rw [HX.out.1]; exact hlt) HCV.out hbig
          go_wp2
          refine bodyPost_ret (v := .tuple #[.agg Tok.nil.cells, .int .i64 22]) (by exact tok_results Try.results34 rfl rfl (four_row (heap_alloc_new w _)) rfl) rfl ⟨?_, ?_⟩
          · exact ⟨rfl, ((((((HS.out.alloc _).drewN _).far hne1 _ _).far hne1 _ _).far hne1 _ _).far hne1 _ _)⟩
          · exact grown_new (grown_new (grown_new (grown_new (grown_draw (grown_alloc (grown_refl w (some B)) _) _) (Nat.le_refl _) _ _) (Nat.le_refl _) _ _) (Nat.le_refl _) _ _) (Nat.le_refl _) _ _
        · have hb2 : 10 * x + (cv - 48) ≤ 9223372036854775807 := by omega
          have HN3 := Lib.hid (num_go HK.out (by rw [HX.out.1]; exact hlt) HCV.out hbig)
          go_wp2
          go_round
          case rel => exact ⟨k + 1, 10 * x + (cv - 48), by omega, by go_num, rfl, by omega, by omega, HN3⟩
          case measure => simp [intOf]; omega
      · have HRR := Lib.hid (num_end HK.out (by rw [HX.out.1]; omega))
        have hw : w.heap.size ≤ w.heap.size + 1 := Nat.le_succ _
        go_wp2
        refine bodyPost_ret (v := .tuple #[.agg (Tok.mk 2 p x ⟨#[]⟩).cells, .int .i64 0]) (by exact tok_results Try.results34 rfl rfl (row_alloc (four_row (far_row (heap_alloc_new w _) (Ne.symm hne1))) _) rfl) rfl ⟨?_, ?_⟩
        · rw [HRR.out]
          exact ⟨rfl, (((((((HS.out.alloc _).drewN _).set (p + m)).far hne1 _ _).far hne1 _ _).far hne1 _ _).far hne1 _ _).alloc _⟩
        · exact grown_alloc (grown_new (grown_new (grown_new (grown_new (grown_row (grown_draw (grown_alloc (grown_refl w (some B)) _) _) _ _) (Nat.le_refl _) _ _) (Nat.le_refl _) _ _) (Nat.le_refl _) _ _) (Nat.le_refl _) _ _) _
end Go.Proofs.Yteenkeccpfgffaa
