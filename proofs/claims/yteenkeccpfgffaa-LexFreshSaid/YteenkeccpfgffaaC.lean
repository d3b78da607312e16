/- The state of a lex.reader in memory; the walk of skip (chapter 2). -/
import Derived.Test.YteenkeccpfgffaaB
set_option linter.unusedVariables false
set_option linter.unusedSimpArgs false
namespace Go.Proofs.Yteenkeccpfgffaa
open Go.RowKit Go.Proofs.YteenkeccpfgffaaW.PrintWords Go.Proofs.YteenkeccpfgffaaW.PrintLast Go.Proofs.YteenkeccpfgffaaW.PrintMore

def RS (w : World) (B : Nat) (A : Option Addr) (n c p : Nat) : Prop := w.heap[B]? = some (.cells #[.slice A n c, .int .i64 (p : Int)] 55 (0, 0))
section
variable {w w' : World} {B : Nat} {A : Option Addr} {n c p : Nat}
theorem RS.c0 (h : RS w B A n c p) : w.cell? ⟨B, 0, none⟩ = some (.slice A n c) := by
  unfold RS at h; simp [World.cell?, h]
theorem RS.c1 (h : RS w B A n c p) : w.cell? ⟨B, 1, none⟩ = some (.int .i64 (p : Int)) := by
  unfold RS at h; simp [World.cell?, h]
theorem RS.f1 (h : RS w B A n c p) : w.frozen? ⟨B, 1, none⟩ = false := by
  unfold RS at h; simp [World.frozen?, h]
theorem RS.set (h : RS w B A n c p) (q : Nat) : RS (w.setCell ⟨B, 1, none⟩ (.int .i64 (q : Int))) B A n c q := by
  unfold RS at h ⊢
  have hl : B < w.heap.size := (Array.getElem?_eq_some_iff.1 h).1
  have he : w.heap[B] = .cells #[.slice A n c, .int .i64 (p : Int)] 55 (0, 0) := (Array.getElem?_eq_some_iff.1 h).2
  simp [World.setCell, Array.getElem_modify, hl, he]
theorem RS.drewN (h : RS w B A n c p) (k : Nat) : RS (w.drewN k) B A n c p := h
theorem RS.lt (h : RS w B A n c p) : B < w.heap.size := (Array.getElem?_eq_some_iff.1 h).1
theorem RS.grown (h : RS w B A n c p) {row : Option Nat} (hg : w.grownBy w' row) (hne : some B ≠ row) : RS w' B A n c p := (hg.block B h.lt hne).trans h
theorem grown_set (w : World) (B j : Nat) (v : Value) : w.grownBy (w.setCell ⟨B, j, none⟩ v) (some B) :=
  ⟨rfl, rfl, rfl, by simp [World.setCell], fun k hk hne => Below.heap_setCell w ⟨B, j, none⟩ v k (fun e => hne (by rw [e]))⟩
theorem grown_drewN (w : World) (k : Nat) (row : Option Nat) : w.grownBy (w.drewN k) row := ⟨rfl, rfl, rfl, Nat.le_refl _, fun _ _ _ => rfl⟩
def Far (A : Option Addr) (B n : Nat) : Prop := 0 < n → ∀ ad, A = some ad → ad.block ≠ B
theorem reads_grown {k : IntKind} {xs : List Int} (h : ReadsInt w k A n xs) (hg : w.grownBy w' (some B)) (hf : Far A B n) : ReadsInt w' k A n xs := by
  refine ⟨h.1, h.2.1, fun hn => ?_⟩
  obtain ⟨ad, e, hc⟩ := h.2.2 hn
  refine ⟨ad, e, fun j hj => hg.cell (hc j hj) ?_⟩
  have hb := hf hn ad e
  have : (ad.add j).block = ad.block := by unfold Addr.add; split <;> rfl
  rw [this]
  exact fun he => hb (Option.some.inj he)
end

def skipL : Bool → List Int → Nat × Bool
  | _, [] => (0, true)
  | true, c :: r => if cls c = 0 then (0, false) else ((skipL (c != 10) r).1 + 1, (skipL (c != 10) r).2)
  | false, c :: r => if cls c = 1 then ((skipL false r).1 + 1, (skipL false r).2)
    else if c = 47 ∧ r ≠ [] ∧ rd r 0 = 47 then ((skipL true r).1 + 1, (skipL true r).2) else (0, true)
/-- From place q on skip goes on to place t, and answers ok. -/
def SkipTo (l : List Int) (cm : Bool) (q t : Nat) (ok : Bool) : Prop := q + (skipL cm (l.drop q)).1 = t ∧ (skipL cm (l.drop q)).2 = ok
theorem skip_end {l : List Int} {cm ok : Bool} {q t : Nat} (h : SkipTo l cm q t ok) (hq : l.length ≤ q) : t = q ∧ ok = true := by
  unfold SkipTo at h
  rw [List.drop_eq_nil_of_le hq] at h
  have e : skipL cm [] = (0, true) := by cases cm <;> rfl
  rw [e] at h
  exact ⟨h.1.symm, h.2.symm⟩
theorem skip_bad {l : List Int} {ok : Bool} {q t : Nat} {c : Int} (h : SkipTo l true q t ok) (hq : q < l.length) (hc : rd l q = c) (h0 : cls c = 0) : t = q ∧ ok = false := by
  unfold SkipTo at h
  rw [drop_rd l q hq, hc, skipL, if_pos h0] at h
  exact ⟨h.1.symm, h.2.symm⟩
theorem skip_com {l : List Int} {ok : Bool} {q t : Nat} {c : Int} (h : SkipTo l true q t ok) (hq : q < l.length) (hc : rd l q = c) (h0 : cls c ≠ 0) : SkipTo l (c != 10) (q + 1) t ok := by
  unfold SkipTo at h ⊢
  rw [drop_rd l q hq, hc, skipL, if_neg h0] at h
  exact ⟨by rw [← h.1]; omega, h.2⟩
theorem skip_blank {l : List Int} {ok : Bool} {q t : Nat} {c : Int} (h : SkipTo l false q t ok) (hq : q < l.length) (hc : rd l q = c) (h0 : cls c = 1) : SkipTo l false (q + 1) t ok := by
  unfold SkipTo at h ⊢
  rw [drop_rd l q hq, hc, skipL, if_pos h0] at h
  exact ⟨by rw [← h.1]; omega, h.2⟩
theorem rd_drop0 (l : List Int) (q : Nat) : rd (l.drop q) 0 = rd l q := by
  unfold rd; simp [List.getD_eq_getElem?_getD, List.getElem?_drop]
theorem skip_open {l : List Int} {ok : Bool} {q t : Nat} {c : Int} (h : SkipTo l false q t ok) (hq : q + 1 < l.length) (hc : rd l q = c) (h0 : cls c ≠ 1) (h1 : c = 47) (h2 : rd l (q + 1 : Nat) = 47) : SkipTo l true (q + 1) t ok := by
  unfold SkipTo at h ⊢
  have hne : l.drop (q + 1) ≠ [] := by simp; omega
  rw [drop_rd l q (by omega), hc, skipL, if_neg h0, if_pos ⟨h1, hne, by rw [rd_drop0]; exact h2⟩] at h
  exact ⟨by rw [← h.1]; omega, h.2⟩
theorem skip_stop {l : List Int} {ok : Bool} {q t : Nat} {c : Int} (h : SkipTo l false q t ok) (hq : q < l.length) (hc : rd l q = c) (h0 : cls c ≠ 1) (h1 : ¬ (c = 47 ∧ q + 1 < l.length ∧ rd l (q + 1 : Nat) = 47)) : t = q ∧ ok = true := by
  unfold SkipTo at h
  rw [drop_rd l q hq, hc, skipL, if_neg h0, if_neg (by
    rintro ⟨a, b, d⟩
    refine h1 ⟨a, ?_, by rw [rd_drop0] at d; exact d⟩
    simp at b; omega)] at h
  exact ⟨h.1.symm, h.2.symm⟩
theorem skipL_le (cm : Bool) (l : List Int) : (skipL cm l).1 ≤ l.length := by
  induction l generalizing cm with
  | nil => cases cm <;> simp [skipL]
  | cons c r ih =>
    cases cm
    · simp only [skipL]
      split
      · have := ih false; simp; omega
      · split
        · have := ih true; simp; omega
        · simp
    · simp only [skipL]
      split
      · simp
      · have := ih (c != 10); simp; omega

theorem next_cell {A A2 : Option Addr} {n c q : Nat} {l : List Int} {dv : Int} {wr : World} (h : ∀ (w : World) (k : IntKind) (xs : List Int), n ≤ c → ReadsInt w k A n xs → ReadsInt w k A2 (n - q) (xs.drop q))
    (hnc : n ≤ c) (hr : ReadsInt wr .u8 A n l) (hd : rd l (q + 1 : Nat) = dv) (hq : q + 1 < n) : ∃ ad2, A2 = some ad2 ∧ wr.cell? ⟨ad2.block, ad2.off + 1, none⟩ = some (.int .u8 dv) := by
  obtain ⟨ad2, h1, h2⟩ := (h wr .u8 l hnc hr).2.2 (by omega)
  refine ⟨ad2, h1, ?_⟩
  have e : (⟨ad2.block, ad2.off + 1, none⟩ : Addr) = ad2.add 1 := by unfold Addr.add; simp
  rw [e, h2 1 (by omega), ← hd]
  simp [rd, List.getD_eq_getElem?_getD, List.getElem?_drop]

set_option maxHeartbeats 2000000 in
theorem skip_any (B : Nat) (A : Option Addr) (n c p t : Nat) (ok : Bool) (l : List Int) (w : World) (hs : RS w B A n c p) (hp : p ≤ n) (hnc : n ≤ c) (hr : ReadsInt w .u8 A n l) (hf : Far A B n) (hb : byteRange l) (hsk : SkipTo l false p t ok) :
    Calls Try.prog 26 #[.pointer (some ⟨B, 0, none⟩)] w fun e w' => e = .returned (.bool ok) ∧ RS w' B A n c t ∧ w.grownBy w' (some B) := by
  have hn := hr.2.1
  have HR := Lib.hid hr
  have HS := Lib.hid hs
  have HSK := Lib.hid hsk
  have HB := Lib.hid hb
  have HF := Lib.hid hf
  have hlen := Lib.hid hr.1
  clear hr hs hsk hb hf
  go_enter Try.func26, Try.ntmps26
  go_wp2
  go_step3
  go_wp2
  go_step3
  go_wp2
  go_loopg [3] (n - p) (fun g cm wr => ∃ (b : Bool) (q : Nat), cm = .bool b ∧ q ≤ n ∧ g + q = n ∧ Hid (RS wr B A n c q) ∧ Hid (w.grownBy wr (some B)) ∧ Hid (SkipTo l b q t ok))
  case atStart => exact ⟨false, p, rfl, hp, by omega, HS, Lib.hid ⟨rfl, rfl, rfl, Nat.le_refl _, fun _ _ _ => rfl⟩, HSK⟩
  case round =>
    obtain ⟨b, q, rfl, hq, hg, HS1, HG1, HSK1⟩ := hrel
    have c0 := HS1.out.c0
    have c1 := HS1.out.c1
    have f1 := HS1.out.f1
    have HR1 := Lib.hid (reads_grown HR.out HG1.out HF.out)
    by_cases hlt : q < n
    · obtain ⟨ad, hA, hcell⟩ := HR1.out.at_ (q : Int) (by omega) (by omega)
      obtain rfl := hA
      rw [Int.toNat_natCast] at hcell
      have hbk := HB.out q
      generalize hcv : rd l q = cv at *
      have HCV := Lib.hid hcv
      clear hcv
      cases b
      · by_cases h1 : cls cv = 1
        · have HN := Lib.hid (skip_blank HSK1.out (by rw [hlen.out]; exact hlt) HCV.out h1)
          clear HSK1
          go_wp2
          go_quiet (fail)
          go_wp2
          go_quiet (fail)
          go_wp2_with (go_at_call 31; refine (class_any _ hbk.1 hbk.2 _).mono ?_; rintro e w' ⟨rfl, rfl⟩)
          go_roundg (gk - 1)
          case measure => omega
          case rel => exact ⟨false, q + 1, by simp, by omega, by omega, Lib.hid ((HS1.out.drewN _).set (q + 1)), Lib.hid ((HG1.out.trans (grown_drewN _ _ _)).trans (grown_set _ _ _ _)), HN⟩
        · by_cases h2 : cv = 47
          · subst h2
            by_cases h3 : q + 1 < n
            · generalize hdv : rd l (q + 1 : Nat) = dv at *
              have HDV := Lib.hid hdv
              clear hdv
              by_cases h4 : dv = 47
              · subst h4
                have HN := Lib.hid (skip_open HSK1.out (by rw [hlen.out]; exact h3) HCV.out h1 rfl HDV.out)
                clear HSK1
                go_wp2
                go_quiet (fail)
                go_wp2
                go_quiet (fail)
                go_wp2_with (first | (go_at_call 31; refine (class_any _ hbk.1 hbk.2 _).mono ?_; rintro e w' ⟨rfl, rfl⟩) | (go_at_call 32; refine (rest_any B (some ad) n c q _ (by exact c0) (by exact c1) hq).mono ?_; rintro e w' ⟨A2, rfl, HRD2, nq2, rfl⟩; obtain ⟨ad2, hA2, hcell2⟩ := next_cell HRD2 hnc HR1.out HDV.out (by omega); obtain rfl := hA2; clear HRD2))
                go_roundg (gk - 1)
                case measure => omega
                case rel => exact ⟨true, q + 1, rfl, by omega, by omega, Lib.hid ((HS1.out.drewN _).set (q + 1)), Lib.hid ((HG1.out.trans (grown_drewN _ _ _)).trans (grown_set _ _ _ _)), HN⟩
              · obtain ⟨ht, ho⟩ := skip_stop HSK1.out (by rw [hlen.out]; exact hlt) HCV.out h1 (fun h => h4 (HDV.out.symm.trans h.2.2))
                go_wp2
                go_quiet (fail)
                go_wp2
                go_quiet (fail)
                go_wp2_with (first | (go_at_call 31; refine (class_any _ hbk.1 hbk.2 _).mono ?_; rintro e w' ⟨rfl, rfl⟩) | (go_at_call 32; refine (rest_any B (some ad) n c q _ (by exact c0) (by exact c1) hq).mono ?_; rintro e w' ⟨A2, rfl, HRD2, nq2, rfl⟩; obtain ⟨ad2, hA2, hcell2⟩ := next_cell HRD2 hnc HR1.out HDV.out (by omega); obtain rfl := hA2; clear HRD2))
                try rw [Exit.noGoto_ret]
                go_ret
                exact ⟨by rw [ho]; rfl, by rw [ht]; exact HS1.out.drewN _, HG1.out.trans (grown_drewN _ _ _)⟩
            · obtain ⟨ht, ho⟩ := skip_stop HSK1.out (by rw [hlen.out]; exact hlt) HCV.out h1 (fun h => h3 (by have := hlen.out; omega))
              go_wp2
              go_quiet (fail)
              go_wp2
              go_quiet (fail)
              go_wp2_with (first | (go_at_call 31; refine (class_any _ hbk.1 hbk.2 _).mono ?_; rintro e w' ⟨rfl, rfl⟩) | (go_at_call 32; refine (rest_any B (some ad) n c q _ (by exact c0) (by exact c1) hq).mono ?_; rintro e w' ⟨A2, rfl, HRD2, nq2, rfl⟩; clear HRD2))
              try rw [Exit.noGoto_ret]
              go_ret
              exact ⟨by rw [ho]; rfl, by rw [ht]; exact HS1.out.drewN _, HG1.out.trans (grown_drewN _ _ _)⟩
          · obtain ⟨ht, ho⟩ := skip_stop HSK1.out (by rw [hlen.out]; exact hlt) HCV.out h1 (fun h => h2 h.1)
            go_wp2
            go_quiet (fail)
            go_wp2
            go_quiet (fail)
            go_wp2_with (go_at_call 31; refine (class_any _ hbk.1 hbk.2 _).mono ?_; rintro e w' ⟨rfl, rfl⟩)
            try rw [Exit.noGoto_ret]
            go_ret
            exact ⟨by rw [ho]; rfl, by rw [ht]; exact HS1.out.drewN _, HG1.out.trans (grown_drewN _ _ _)⟩
      · by_cases h1 : cls cv = 0
        · obtain ⟨ht, ho⟩ := skip_bad HSK1.out (by rw [hlen.out]; exact hlt) HCV.out h1
          go_wp2
          go_quiet (fail)
          go_wp2
          go_quiet (fail)
          go_wp2_with (go_at_call 31; refine (class_any _ hbk.1 hbk.2 _).mono ?_; rintro e w' ⟨rfl, rfl⟩)
          try rw [Exit.noGoto_ret]
          go_ret
          exact ⟨by rw [ho]; rfl, by rw [ht]; exact HS1.out.drewN _, HG1.out.trans (grown_drewN _ _ _)⟩
        · have HN := Lib.hid (skip_com HSK1.out (by rw [hlen.out]; exact hlt) HCV.out h1)
          clear HSK1
          go_wp2
          go_quiet (fail)
          go_wp2
          go_quiet (fail)
          go_wp2_with (go_at_call 31; refine (class_any _ hbk.1 hbk.2 _).mono ?_; rintro e w' ⟨rfl, rfl⟩)
          go_roundg (gk - 1)
          case measure => omega
          case rel => exact ⟨_, q + 1, rfl, by omega, by omega, Lib.hid ((HS1.out.drewN _).set (q + 1)), Lib.hid ((HG1.out.trans (grown_drewN _ _ _)).trans (grown_set _ _ _ _)), HN⟩
    · obtain ⟨ht, ho⟩ := skip_end HSK1.out (by rw [hlen.out]; omega)
      go_wp2
      go_quiet (fail)
      go_wp2
      try rw [Exit.noGoto_ret]
      go_ret
      exact ⟨by rw [ho]; rfl, by rw [ht]; exact HS1.out.drewN _, HG1.out.trans (grown_drewN _ _ _)⟩
end Go.Proofs.Yteenkeccpfgffaa
