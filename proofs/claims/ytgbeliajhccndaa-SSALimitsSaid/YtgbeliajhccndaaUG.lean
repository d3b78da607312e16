/- Chapter 9 (plain): Check of a function of one block, at its limits. -/
import Derived.Test.YtgbeliajhccndaaUD
set_option linter.unusedVariables false
set_option linter.unusedSimpArgs false
namespace Go.Proofs.Ytgbeliajhccndaa
open Go.RowKit Go.Proofs.YtgbeliajhccndaaW.PrintWords Go.Proofs.YtgbeliajhccndaaW.PrintLast Go.Proofs.YtgbeliajhccndaaW.PrintMore PP

def rng (n : Nat) : List Int := (List.range n).map Int.ofNat
def vals0 (n : Nat) : List V3 := (List.range n).map fun (j : Nat) => (1, 1, (j : Int))
def vals1 (n : Nat) : List V3 := (List.range n).map fun (j : Nat) => (33, 1 + ((j % 3 : Nat) : Int), (j : Int))
def xyB (j : Nat) : UInt8 := if j % 5 = 0 then 120 else if j % 5 = 1 then 89 else if j % 5 = 2 then 95 else if j % 5 = 3 then 122 else 57
def nameL (n : Nat) : ByteArray := ⟨((List.range n).map xyB).toArray⟩
/-- A head that is none: no form. -/
theorem lim_bad {F : S38} (h : headB F = false) : checkE [mainL, F] 0 = 90 := by
  unfold checkE
  rw [if_neg]
  unfold formedB
  have hr : rowB [mainL, F] 1 = false := by
    unfold rowB
    have : funcB [mainL, F] F = false := by unfold funcB; rw [h]; rfl
    rw [show rd_T38 [mainL, F] ((1 : Nat) : Int) = F from rfl, this]
    simp
  rw [show List.range ([mainL, F] : List S38).length = [0, 1] from rfl]
  simp [hr]
theorem name_bad {F : S38} (h : nameB F.f0 = false) : checkE [mainL, F] 0 = 90 := by
  unfold checkE
  rw [if_neg]
  unfold formedB
  have hr : rowB [mainL, F] 1 = false := by
    unfold rowB
    rw [show rd_T38 [mainL, F] ((1 : Nat) : Int) = F from rfl, h]
    simp
  rw [show List.range ([mainL, F] : List S38).length = [0, 1] from rfl]
  simp [hr]
theorem lim1_all (n : Nat) : checkE [mainL, limF fN (rng n) 0 (vals1 n) [] (-1)] 0 = if n ≤ 8 then 0 else 90 := by
  by_cases h : n ≤ 8
  · rw [if_pos h]
    have key : (List.range 9).all (fun n => checkE [mainL, limF fN (rng n) 0 (vals1 n) [] (-1)] 0 == 0) = true := by decide +kernel
    have := List.all_eq_true.1 key n (by simp; omega)
    simpa using this
  · rw [if_neg h]
    refine lim_bad ?_
    unfold headB limF rng
    simp [h]
theorem bytes_name (n : Nat) : bytesOf (nameL n) = (List.range n).map (fun j => ((xyB j).toNat : Int)) := by
  unfold bytesOf nameL
  simp
theorem take_all_ {α : Type} {p : α → Bool} : ∀ {l : List α}, (∀ x ∈ l, p x = true) → l.takeWhile p = l
  | [], _ => rfl
  | a :: r, h => by rw [List.takeWhile_cons, if_pos (h a (by simp)), take_all_ (fun x hx => h x (by simp [hx]))]
theorem xy_cls (j : Nat) : Lex.strOk true ((xyB j).toNat : Int) = true := by
  unfold xyB
  split
  · decide
  split
  · decide
  split
  · decide
  split
  · decide
  · decide
theorem name_long {n : Nat} (h : 64 < n) : nameB (nameL n) = false := by
  unfold nameB Lex.lexAll
  rw [bytes_name]
  obtain ⟨m, rfl⟩ : ∃ m, n = m + 1 := ⟨n - 1, by omega⟩
  have hl : ((List.range (m + 1)).map (fun j => ((xyB j).toNat : Int))) = 120 :: (List.range m).map (fun j => ((xyB (j + 1)).toNat : Int)) := by
    rw [List.range_succ_eq_map, List.map_cons, List.map_map]
    rfl
  have hs : Lex.strL true ((List.range (m + 1)).map (fun j => ((xyB j).toNat : Int))) = m + 1 := by
    unfold Lex.strL
    rw [take_all_ (fun x hx => by
      obtain ⟨j, _, rfl⟩ := List.mem_map.1 hx
      exact xy_cls j)]
    simp
  rw [Lex.lexFrom, List.drop_zero]
  have hk : Lex.skipL false ((List.range (m + 1)).map (fun j => ((xyB j).toNat : Int))) = (0, true) := by
    rw [hl, Lex.skipL, if_neg (by decide), if_neg (by rintro ⟨h, _⟩; exact absurd h (by decide))]
  rw [hk]
  simp only [Bool.true_eq_false, if_false]
  rw [if_neg (by simp)]
  have ht : Lex.tokAt ((List.range (m + 1)).map (fun j => ((xyB j).toNat : Int))) (0 + 0) = (Lex.Tok.nil, 21, 0) := by
    unfold Lex.tokAt
    rw [if_pos (by rw [hl]; show Lex.cls 120 = 3; decide)]
    unfold Lex.nameAt
    rw [Nat.add_zero, List.drop_zero, hs, if_pos h]
  rw [ht]
  rfl
theorem lim2_all (n : Nat) : checkE [mainL, limF (nameL n) [] 0 [] [] (-1)] 0 = if 1 ≤ n ∧ n ≤ 64 then 0 else 90 := by
  by_cases h : n ≤ 64
  · have key : (List.range 65).all (fun n => checkE [mainL, limF (nameL n) [] 0 [] [] (-1)] 0 == if 1 ≤ n ∧ n ≤ 64 then 0 else 90) = true := by decide +kernel
    have := List.all_eq_true.1 key n (by simp; omega)
    simpa using this
  · rw [if_neg (by omega)]
    exact name_bad (name_long (by omega))
theorem lim3_zero : checkE [mainL, limF fN [] 0 [] [] (-1)] 0 = 0 := by decide +kernel
theorem lim3_all (r : Int) (hr : r ≠ 0) : checkE [mainL, limF fN [] r [(1, r, 0)] [0] 0] 0 = if 0 ≤ r ∧ r ≤ 3 then 0 else 90 := by
  by_cases h : 0 ≤ r ∧ r ≤ 3
  · rw [if_pos h]
    have h3 : r = 1 ∨ r = 2 ∨ r = 3 := by omega
    rcases h3 with rfl | rfl | rfl <;> decide +kernel
  · rw [if_neg h]
    refine lim_bad ?_
    unfold headB limF
    have : (decide (0 ≤ r) && decide (r ≤ 3)) = false := by
      rw [Bool.and_eq_false_iff]
      simp only [decide_eq_false_iff_not]
      omega
    simp only [this, Bool.and_false, Bool.false_and]
theorem rng_len (n : Nat) : (rng n).length = n := by simp [rng]
theorem vals1_len (n : Nat) : (vals1 n).length = n := by simp [vals1]
theorem vals0_len (n : Nat) : (vals0 n).length = n := by simp [vals0]
theorem rng_mem {n : Nat} {x : Int} (h : x ∈ rng n) : ∃ j : Nat, j < n ∧ x = (j : Int) := by
  unfold rng at h
  obtain ⟨j, hj, rfl⟩ := List.mem_map.1 h
  exact ⟨j, by simpa using hj, rfl⟩
theorem vals0_at {n j : Nat} (h : j < n) : rd_T42 ((vals0 n).map toV) (j : Int) = ⟨1, 1, (j : Int), []⟩ := by
  unfold rd_T42 vals0
  simp [List.getD_eq_getElem?_getD, h, toV]
/-- Each value stands in one place. -/
theorem putK_times : ∀ (m i : Nat) (s : Tri) (k : Int) (n : Nat), i + m = n → s.2.2.length = n → (∀ j, j < i → s.2.2.getD j 0 = 1) → (∀ j, i ≤ j → j < n → s.2.2.getD j 0 = 0) → (putK 0 s k ((List.range' i m).map Int.ofNat)).2.2.length = n ∧ ∀ j, j < n → (putK 0 s k ((List.range' i m).map Int.ofNat)).2.2.getD j 0 = 1
  | 0, i, s, k, n, h, hl, h1, _ => ⟨hl, fun j hj => h1 j (by omega)⟩
  | m + 1, i, s, k, n, h, hl, h1, h0 => by
    rw [List.range'_succ, List.map_cons, putK]
    have hget : ∀ j, (put3 s (Int.ofNat i) 0 k).2.2.getD j 0 = if j = i then 1 else s.2.2.getD j 0 := by
      intro j
      show (s.2.2.set (Int.ofNat i).toNat (wrap64 (s.2.2.getD (Int.ofNat i).toNat 0 + 1))).getD j 0 = _
      rw [show (Int.ofNat i).toNat = i from rfl, h0 i (Nat.le_refl _) (by omega), show wrap64 (0 + 1) = 1 from by simp [wrap64]]
      rw [List.getD_eq_getElem?_getD, List.getElem?_set]
      by_cases e : i = j
      · subst e; rw [if_pos rfl, if_pos (by omega), if_pos rfl]; rfl
      · rw [if_neg e, if_neg (fun h => e h.symm), ← List.getD_eq_getElem?_getD]
    refine putK_times m (i + 1) _ (k + 1) n (by omega) (by show (s.2.2.set _ _).length = n; rw [List.length_set]; exact hl) (fun j hj => ?_) (fun j hj hjn => ?_)
    · rw [hget]
      split
      · rfl
      · exact h1 j (by omega)
    · rw [hget, if_neg (by omega)]
      exact h0 j (by omega) hjn
theorem lim0_all (n : Nat) : checkE [mainL, limF fN [] 0 (vals0 n) (rng n) (-1)] 0 = if n ≤ 262143 then 0 else 90 := by
  by_cases h : n ≤ 262143
  case neg =>
    rw [if_neg h]
    refine lim_bad ?_
    unfold headB limF
    have : decide (((vals0 n).map toV).length < 262144) = false := by rw [List.length_map, vals0_len]; exact decide_eq_false (by omega)
    simp only [this, Bool.and_false, Bool.false_and]
  rw [if_pos h]
  obtain ⟨F, hF⟩ : ∃ F, F = limF fN [] 0 (vals0 n) (rng n) (-1) := ⟨_, rfl⟩
  have e0 : F.f0 = fN := by rw [hF]; rfl
  have e1 : F.f1 = [] := by rw [hF]; rfl
  have e2 : F.f2 = 0 := by rw [hF]; rfl
  have e3 : F.f3 = (vals0 n).map toV := by rw [hF]; rfl
  have e4 : F.f4 = [⟨[], rng n, ⟨3, -1, []⟩, []⟩] := by rw [hF]; rfl
  have l3 : F.f3.length = n := by rw [e3, List.length_map, vals0_len]
  rw [← hF]
  clear hF
  have hop : ∀ x ∈ rng n, opAt F x = 1 ∧ inB F.f3.length x = true ∧ argsOf F x = [] := by
    intro x hx
    obtain ⟨j, hj, rfl⟩ := rng_mem hx
    unfold opAt argsOf
    rw [l3, e3, vals0_at hj]
    exact ⟨rfl, by simp only [inB, Bool.and_eq_true, decide_eq_true_eq]; omega, rfl⟩
  have hin : (rng n).all (inB F.f3.length) = true := List.all_eq_true.2 fun x hx => (hop x hx).2.1
  have h33 : (rng n).all (fun x => opAt F x != 33) = true := List.all_eq_true.2 fun x hx => by rw [(hop x hx).1]; rfl
  have h32 : (rng n).all (fun x => opAt F x != 32) = true := List.all_eq_true.2 fun x hx => by rw [(hop x hx).1]; rfl
  have hv : ∀ v ∈ F.f3, ∃ j : Nat, v = ⟨1, 1, (j : Int), []⟩ := by
    intro v hv
    rw [e3] at hv
    unfold vals0 at hv
    rw [List.map_map] at hv
    obtain ⟨j, _, rfl⟩ := List.mem_map.1 hv
    exact ⟨j, rfl⟩
  have hfun : funcB [mainL, F] F = true := by
    unfold funcB
    simp only [Bool.and_eq_true]
    refine ⟨⟨⟨?_, List.all_eq_true.2 fun v hvv => ?_⟩, by rw [e1]; rfl⟩, ?_⟩
    · unfold headB
      rw [e1, e2, e4, l3]
      simp
      omega
    · obtain ⟨j, rfl⟩ := hv v hvv
      rfl
    · rw [e4]
      simp only [List.all_cons, List.all_nil, Bool.and_true]
      unfold blockB
      rw [hin, h33]
      simp [termB, e2]
  have hform : formedB [mainL, F] 0 = true := by
    unfold formedB
    rw [show List.range ([mainL, F] : List S38).length = [0, 1] from rfl]
    simp only [List.all_cons, List.all_nil, Bool.and_true, Bool.and_eq_true]
    have hn0 : nameB mainL.f0 = true := by decide +kernel
    have hn1 : nameB fN = true := by decide +kernel
    refine ⟨⟨?_, ?_⟩, rfl⟩
    · unfold rowB
      rw [show rd_T38 [mainL, F] ((0 : Nat) : Int) = mainL from rfl, hn0]
      rfl
    · unfold rowB
      rw [show rd_T38 [mainL, F] ((1 : Nat) : Int) = F from rfl, hfun, e0, hn1]
      rfl
  have hG : Good (dOf [mainL, F] 0 F) := good_of hform (i := 1) (by simp) none 0 ⟨0, 0, none⟩ none 0 none 0 none 0
  have hG0 : Good (dOf [mainL, F] 0 mainL) := good_of hform (i := 0) (by simp) none 0 ⟨0, 0, none⟩ none 0 none 0 none 0
  have hFa := facts_of hG (by show F.f4.length ≤ _; rw [e4]; simp)
  have hw : waysL F = [[]] := by unfold waysL; rw [e4]; rfl
  have hre : reachE (dOf [mainL, F] 0 F) (lineK F) = 0 := (reachE_iff hFa).2 (fun x hx => by
    have hx' : inB (waysL F).length x = true := hx
    rw [hw] at hx'
    obtain ⟨x0, x1⟩ := inB_iff hx'
    have : x = 0 := by simp at x1; omega
    rw [this]
    exact Way.zero (by omega))
  have hpr : predsE F = 0 := by
    unfold predsE
    have hlo : leadOf F = [[]] := by unfold leadOf; rw [e4, hw]; rfl
    rw [e4]
    refine if_pos ?_
    rw [predsB, predsB, Bool.and_true]
    unfold predB
    rw [hlo]
    rfl
  have hph : phisE F = 0 := by
    unfold phisE
    rw [e4]
    refine if_pos ⟨rfl, ?_⟩
    simp only [List.all_cons, List.all_nil, Bool.and_true]
    unfold phisBlk
    rw [h32]
    rfl
  have hon : onceE F = 0 := by
    unfold onceE
    refine if_pos ?_
    have hT : onceT F = putK 0 (zeros n) 0 (rng n) := by
      unfold onceT
      rw [e1, e4, l3]
      rfl
    rw [hT]
    have hk := putK_times n 0 (zeros n) 0 n (by omega) (by simp [zeros]) (fun j hj => by omega) (fun j _ hj => by simp [zeros, List.getD_eq_getElem?_getD, hj])
    rw [← List.range_eq_range'] at hk
    refine List.all_eq_true.2 fun x hx => ?_
    obtain ⟨j, hj, e⟩ := List.mem_iff_getElem.1 hx
    have hj2 : j < n := by
      have := hk.1
      unfold rng at hj
      omega
    have := hk.2 j hj2
    unfold rng at hj e
    rw [List.getD_eq_getElem?_getD, List.getElem?_eq_getElem hj, e] at this
    simpa using this
  have hty : typesE (dOf [mainL, F] 0 F) = 0 := by
    refine types_ok (List.all_eq_true.2 fun v hvv => ?_) ?_
    · obtain ⟨j, rfl⟩ := hv v hvv
      rfl
    · show F.f4.all (endB F) = true
      rw [e4]
      rfl
  have hus : usesE F (usK F) = 0 := by
    unfold usesE
    rw [e4]
    refine if_pos ?_
    rw [usesB, usesB, Bool.and_true]
    unfold blkUse
    have hb : ∀ (l : List Int) (k : Int), (∀ x ∈ l, argsOf F x = []) → bodyUse F (usK F) 0 k l = true := by
      intro l
      induction l with
      | nil => intro k _; rw [bodyUse]
      | cons x r ih =>
        intro k hl
        rw [bodyUse, hl x (by simp), ih (k + 1) (fun y hy => hl y (by simp [hy]))]
        rfl
    rw [show (⟨[], rng n, ⟨3, -1, []⟩, []⟩ : S46).f1 = rng n from rfl, hb (rng n) 0 (fun x hx => (hop x hx).2.2)]
    rfl
  have hF0 : funcE (dOf [mainL, F] 0 F) = 0 := by
    unfold funcE
    rw [show (dOf [mainL, F] 0 F).f = F from rfl]
    rw [hpr, hre, hph, hon, hty, hus]
    simp
  have hM0 : funcE (dOf [mainL, F] 0 mainL) = 0 := by
    have : funcE (dOf [mainL, mainL] 0 mainL) = 0 := by decide +kernel
    exact this
  unfold checkE
  rw [if_pos hform, firstE, if_neg (by rw [hM0]; simp), firstE, if_neg (by rw [hF0]; simp), firstE]
end Go.Proofs.Ytgbeliajhccndaa
