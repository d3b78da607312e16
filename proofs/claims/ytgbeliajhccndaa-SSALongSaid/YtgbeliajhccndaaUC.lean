/- Chapter 9 (plain): Check of a chain of blocks. -/
import Derived.Test.YtgbeliajhccndaaUB
set_option linter.unusedVariables false
set_option linter.unusedSimpArgs false
namespace Go.Proofs.Ytgbeliajhccndaa
open Go.RowKit Go.Proofs.YtgbeliajhccndaaW.PrintWords Go.Proofs.YtgbeliajhccndaaW.PrintLast Go.Proofs.YtgbeliajhccndaaW.PrintMore PP

def fstB (a : List Int) : S46 := ⟨[], a, ⟨1, -1, [1]⟩, []⟩
def midB (j : Nat) : S46 := ⟨[], [], ⟨1, -1, [(j : Int) + 2]⟩, [(j : Int)]⟩
def lstB (q : Nat) (c : List Int) : S46 := ⟨[], c, ⟨3, -1, []⟩, [(q : Int)]⟩
theorem fin_eq (q : Nat) (a c : List Int) : finB (q + 2) a c = fstB a :: ((List.range q).map midB ++ [lstB q c]) := by
  apply List.ext_getElem?
  intro i
  unfold finB
  have hl : (chain0 (q + 2)).length = q + 2 := by simp [chain0]
  cases i with
  | zero => rw [List.getElem?_set, if_neg (by omega), List.getElem?_set, if_pos rfl, if_pos (by omega)]; rfl
  | succ i =>
    rw [List.getElem?_cons_succ]
    by_cases h1 : i = q
    · subst h1
      rw [List.getElem?_set, if_pos (by omega), if_pos (by rw [List.length_set]; omega), List.getElem?_append_right (by simp)]
      simp [lstB]
    · rw [List.getElem?_set, if_neg (by omega), List.getElem?_set, if_neg (by omega)]
      unfold chain0
      rw [List.getElem?_map]
      by_cases h2 : i < q
      · rw [List.getElem?_range (by omega), List.getElem?_append_left (by simp; omega), List.getElem?_map, List.getElem?_range h2]
        simp only [Option.map_some]
        unfold chB midB
        rw [if_pos (by omega)]
        congr 3 <;> (try congr 1) <;> omega
      · rw [List.getElem?_eq_none (by simp; omega), List.getElem?_eq_none (by simp; omega)]
        rfl
theorem fin_mem {q : Nat} {a c : List Int} {b : S46} (h : b ∈ finB (q + 2) a c) : b = fstB a ∨ (∃ j, j < q ∧ b = midB j) ∨ b = lstB q c := by
  rw [fin_eq] at h
  rcases List.mem_cons.1 h with h | h
  · exact .inl h
  rcases List.mem_append.1 h with h | h
  · obtain ⟨j, hj, rfl⟩ := List.mem_map.1 h
    exact .inr (.inl ⟨j, by simpa using hj, rfl⟩)
  · exact .inr (.inr (by simpa using h))
section
variable {q : Nat} {a c : List Int}
theorem long_len : (longF (q + 2) a c).f4.length = q + 2 := by
  show (finB (q + 2) a c).length = _
  rw [fin_eq]; simp
theorem long_op {x : Int} (h : x = 0 ∨ x = 1) : opAt (longF (q + 2) a c) x ≠ 33 ∧ opAt (longF (q + 2) a c) x ≠ 32 ∧ inB (longF (q + 2) a c).f3.length x = true := by
  rcases h with rfl | rfl
  · exact ⟨show (1 : Int) ≠ 33 from by decide, show (1 : Int) ≠ 32 from by decide, rfl⟩
  · exact ⟨show (26 : Int) ≠ 33 from by decide, show (26 : Int) ≠ 32 from by decide, rfl⟩
theorem long_block (ha : ∀ x ∈ a, x = 0 ∨ x = 1) (hc : ∀ x ∈ c, x = 0 ∨ x = 1) {b : S46} (h : b ∈ finB (q + 2) a c) : blockB (longF (q + 2) a c) b = true := by
  have hall : ∀ l : List Int, (∀ x ∈ l, x = 0 ∨ x = 1) → l.all (inB (longF (q + 2) a c).f3.length) = true ∧ l.all (fun x => opAt (longF (q + 2) a c) x != 33) = true := by
    intro l hl
    refine ⟨List.all_eq_true.2 fun x hx => (long_op (hl x hx)).2.2, List.all_eq_true.2 fun x hx => ?_⟩
    have := (long_op (q := q) (a := a) (c := c) (hl x hx)).1
    simpa using this
  have hlen := long_len (q := q) (a := a) (c := c)
  unfold blockB
  rw [hlen]
  rcases fin_mem h with rfl | ⟨j, hj, rfl⟩ | rfl
  · unfold fstB
    obtain ⟨h1, h2⟩ := hall a ha
    rw [h1, h2]
    simp [inB, termB]
    omega
  · unfold midB
    simp [inB, termB]
    omega
  · unfold lstB
    obtain ⟨h1, h2⟩ := hall c hc
    rw [h1, h2]
    have h3 : (longF (q + 2) a c).f2 = 0 := rfl
    simp [inB, termB, h3]
    omega
theorem long_formed (ha : ∀ x ∈ a, x = 0 ∨ x = 1) (hc : ∀ x ∈ c, x = 0 ∨ x = 1) : formedB [longF (q + 2) a c] 0 = true := by
  have hn : nameB mainN = true := by decide +kernel
  have hlen := long_len (q := q) (a := a) (c := c)
  have hfun : funcB [longF (q + 2) a c] (longF (q + 2) a c) = true := by
    unfold funcB
    simp only [Bool.and_eq_true]
    refine ⟨⟨⟨?_, rfl⟩, rfl⟩, List.all_eq_true.2 fun b hb => long_block ha hc hb⟩
    unfold headB
    rw [hlen]
    have h1 : (longF (q + 2) a c).f1 = [] := rfl
    have h2 : (longF (q + 2) a c).f3 = loVals := rfl
    have h3 : (longF (q + 2) a c).f2 = 0 := rfl
    rw [h1, h2, h3]
    simp [loVals]
  unfold formedB
  rw [Bool.and_eq_true]
  refine ⟨?_, rfl⟩
  show ([0] : List Nat).all _ = true
  simp only [List.all_cons, List.all_nil, Bool.and_true]
  unfold rowB
  rw [show rd_T38 [longF (q + 2) a c] ((0 : Nat) : Int) = longF (q + 2) a c from rfl, hfun, show (longF (q + 2) a c).f0 = mainN from rfl, hn]
  rfl
def dL (q : Nat) (a c : List Int) : Ck := dOf [longF (q + 2) a c] 0 (longF (q + 2) a c)
theorem long_good (ha : ∀ x ∈ a, x = 0 ∨ x = 1) (hc : ∀ x ∈ c, x = 0 ∨ x = 1) : Good (dL q a c) := good_of (long_formed ha hc) (i := 0) (by simp) none 0 ⟨0, 0, none⟩ none 0 none 0 none 0
theorem ways_eq : waysL (longF (q + 2) a c) = [1] :: ((List.range q).map (fun (j : Nat) => [(j : Int) + 2]) ++ [[]]) := by
  unfold waysL
  rw [show (longF (q + 2) a c).f4 = finB (q + 2) a c from rfl, fin_eq]
  simp [fstB, lstB, midB]
theorem ways_len : (waysL (longF (q + 2) a c)).length = q + 2 := by rw [ways_eq]; simp
/-- each block leads to the next -/
theorem ways_ed {x : Nat} (hx : x < q + 1) : Ed (waysL (longF (q + 2) a c)) (x : Int) ((x : Int) + 1) := by
  unfold Ed
  rw [Int.toNat_natCast, ways_eq]
  cases x with
  | zero => simp
  | succ x =>
    rw [List.getD_eq_getElem?_getD, List.getElem?_cons_succ, List.getElem?_append_left (by simp; omega), List.getElem?_map, List.getElem?_range (by omega)]
    simp
    omega
theorem long_reach (x : Int) (hx : inB (waysL (longF (q + 2) a c)).length x = true) : Way (waysL (longF (q + 2) a c)) (-1) x := by
  rw [ways_len] at hx
  obtain ⟨x0, x1⟩ := inB_iff hx
  have key : ∀ n : Nat, n < q + 2 → Way (waysL (longF (q + 2) a c)) (-1) (n : Int) := by
    intro n
    induction n with
    | zero => intro _; exact Way.zero (by omega)
    | succ n ih => intro hn; exact (ih (by omega)).step (by have := ways_ed (q := q) (a := a) (c := c) (x := n) (by omega); rwa [show ((n + 1 : Nat) : Int) = (n : Int) + 1 from by omega]) (by omega)
  have := key x.toNat (by omega)
  rwa [Int.toNat_of_nonneg x0] at this
/-- what leads to each block -/
theorem addAt_get {rs : List (List Int)} {n : Nat} {x : Int} {d : Nat} (hn : n < rs.length) : (addAt rs n x).getD d [] = if d = n then rs.getD d [] ++ [x] else rs.getD d [] := by
  unfold addAt
  rw [List.getD_eq_getElem?_getD, List.getElem?_set]
  by_cases e : n = d
  · subst e; rw [if_pos rfl, if_pos hn, if_pos rfl]; rfl
  · rw [if_neg e, if_neg (fun h => e h.symm), ← List.getD_eq_getElem?_getD]
theorem lead_mid : ∀ (k i : Nat) (rs : List (List Int)), i + k + 2 ≤ rs.length → ∀ d, (leadF rs ((i : Int) + 1) (((List.range' i k).map (fun (j : Nat) => [(j : Int) + 2])) ++ [[]])).getD d [] = rs.getD d [] ++ (if i + 2 ≤ d ∧ d < i + k + 2 then [(d : Int) - 1] else [])
  | 0, i, rs, _, d => by
    rw [show List.range' i 0 = [] from rfl, List.map_nil, List.nil_append, leadF, leadF, addAll, if_neg (by omega), List.append_nil]
  | k + 1, i, rs, h, d => by
    rw [List.range'_succ, List.map_cons, List.cons_append, leadF, addAll, addAll]
    have h1 := lead_mid k (i + 1) (addAt rs ((i : Int) + 2).toNat ((i : Int) + 1)) (by unfold addAt; simp; omega) d
    rw [show ((i + 1 : Nat) : Int) + 1 = (i : Int) + 1 + 1 from by omega] at h1
    rw [h1, addAt_get (by omega)]
    by_cases e : d = ((i : Int) + 2).toNat
    · rw [if_pos e, if_neg (by omega), if_pos (by omega), List.append_nil]
      congr 2
      omega
    · rw [if_neg e]
      by_cases e2 : i + 2 ≤ d ∧ d < i + (k + 1) + 2
      · rw [if_pos e2, if_pos (by omega)]
      · rw [if_neg e2, if_neg (by omega)]
theorem lead_eq (d : Nat) (hd : d < q + 2) : (leadOf (longF (q + 2) a c)).getD d [] = if d = 0 then [] else [(d : Int) - 1] := by
  unfold leadOf
  rw [long_len, ways_eq, leadF, addAll, addAll]
  have h1 := lead_mid q 0 (addAt (List.replicate (q + 2) []) (1 : Int).toNat 0) (by unfold addAt; simp) d
  rw [show ((0 : Nat) : Int) + 1 = 0 + 1 from rfl, ← List.range_eq_range'] at h1
  have hrep : (List.replicate (q + 2) ([] : List Int)).getD d [] = [] := by simp [List.getD_eq_getElem?_getD, List.getElem?_replicate]; split <;> rfl
  rw [h1, addAt_get (by simp), hrep]
  by_cases e0 : d = 0
  · subst e0; rw [if_neg (by decide), if_neg (by omega), if_pos rfl, List.append_nil]
  · rw [if_neg e0]
    by_cases e1 : d = 1
    · subst e1; rw [if_pos (show 1 = (1 : Int).toNat from rfl), if_neg (by omega)]; rfl
    · rw [if_neg (show ¬ d = (1 : Int).toNat from e1), if_pos (by omega)]; rfl
theorem long_preds : predsE (longF (q + 2) a c) = 0 := by
  have key : ∀ (l : List S46) (i : Nat), l = (finB (q + 2) a c).drop i → predsB (longF (q + 2) a c) i l = true := by
    intro l
    induction l with
    | nil => intro i _; rw [predsB]
    | cons b l ih =>
      intro i hl
      have hi : i < (finB (q + 2) a c).length := by
        have := congrArg List.length hl; simp at this; omega
      have hlen : (finB (q + 2) a c).length = q + 2 := long_len (q := q) (a := a) (c := c)
      have hb : (finB (q + 2) a c)[i]? = some b := by
        rw [List.drop_eq_getElem_cons hi] at hl
        injection hl with h1 _
        rw [List.getElem?_eq_getElem hi, h1]
      have hl2 : l = (finB (q + 2) a c).drop (i + 1) := by
        rw [List.drop_eq_getElem_cons hi] at hl
        injection hl
      rw [predsB, ih (i + 1) hl2, Bool.and_true]
      unfold predB
      rw [lead_eq i (by omega)]
      rw [fin_eq] at hb
      cases i with
      | zero =>
        simp at hb
        subst hb
        simp [fstB]
      | succ i =>
        rw [List.getElem?_cons_succ] at hb
        by_cases h2 : i < q
        · rw [List.getElem?_append_left (by simp; omega), List.getElem?_map, List.getElem?_range h2] at hb
          simp at hb
          subst hb
          simp [midB]
        · rw [List.getElem?_append_right (by simp; omega)] at hb
          have : i = q := by omega
          subst this
          simp at hb
          subst hb
          simp [lstB]
  unfold predsE
  exact if_pos (key (finB (q + 2) a c) 0 (by simp))
theorem long_phis (ha : ∀ x ∈ a, x = 0 ∨ x = 1) (hc : ∀ x ∈ c, x = 0 ∨ x = 1) : phisE (longF (q + 2) a c) = 0 := by
  have hz : (longF (q + 2) a c).f4 = fstB a :: ((List.range q).map midB ++ [lstB q c]) := fin_eq q a c
  have hno : ∀ l : List Int, (∀ x ∈ l, x = 0 ∨ x = 1) → l.all (fun v => opAt (longF (q + 2) a c) v != 32) = true := by
    intro l hl
    refine List.all_eq_true.2 fun x hx => ?_
    have := (long_op (q := q) (a := a) (c := c) (hl x hx)).2.1
    simpa using this
  unfold phisE
  rw [if_pos]
  refine ⟨by rw [hz]; rfl, List.all_eq_true.2 fun b hb => ?_⟩
  unfold phisBlk
  rcases fin_mem hb with rfl | ⟨j, hj, rfl⟩ | rfl
  · unfold fstB
    rw [hno a ha]; rfl
  · rfl
  · unfold lstB
    rw [hno c hc]; rfl
theorem put_mid : ∀ (k i : Nat) (s : Tri) (j : Int) (r : List S46), putBs s j ((List.range' i k).map midB ++ r) = putBs s (j + k) r
  | 0, i, s, j, r => by simp
  | k + 1, i, s, j, r => by
    rw [List.range'_succ, List.map_cons, List.cons_append, putBs]
    show putBs s (j + 1) _ = _
    rw [put_mid k (i + 1)]
    congr 1
    omega
theorem long_once : onceT (longF (q + 2) a c) = putK ((q : Int) + 1) (putK 0 (zeros 2) 0 a) 0 c := by
  unfold onceT
  rw [show (longF (q + 2) a c).f1 = [] from rfl, show (longF (q + 2) a c).f3.length = 2 from rfl, show (longF (q + 2) a c).f4 = finB (q + 2) a c from rfl, fin_eq, putL, putBs]
  rw [List.range_eq_range', put_mid]
  show putK (0 + 1 + (q : Int)) (putK 0 (zeros 2) 0 a) 0 c = _
  rw [show (0 : Int) + 1 + q = q + 1 from by omega]
theorem long_types (ha : ∀ x ∈ a, x = 0 ∨ x = 1) : typesE (dL q a c) = 0 := by
  have h1 : (dL q a c).f.f3.all (fitsB (dL q a c)) = true := rfl
  have h2 : (dL q a c).f.f4.all (endB (dL q a c).f) = true := by
    refine List.all_eq_true.2 fun b hb => ?_
    rcases fin_mem hb with rfl | ⟨j, hj, rfl⟩ | rfl <;> rfl
  exact types_ok h1 h2
theorem uses_mid {f : S38} {u : Us} : ∀ (k i : Nat) (j : Int) (r : List S46), usesB f u j ((List.range' i k).map midB ++ r) = usesB f u (j + k) r
  | 0, i, j, r => by simp
  | k + 1, i, j, r => by
    rw [List.range'_succ, List.map_cons, List.cons_append, usesB]
    have : blkUse f u j (midB i) = true := by unfold blkUse midB; simp [phiUse, bodyUse, termUse]
    rw [this, Bool.true_and, uses_mid k (i + 1)]
    congr 1
    omega
theorem long_uses : usesE (longF (q + 2) a c) (usK (longF (q + 2) a c)) = if bodyUse (longF (q + 2) a c) (usK (longF (q + 2) a c)) 0 0 a = true ∧ bodyUse (longF (q + 2) a c) (usK (longF (q + 2) a c)) ((q : Int) + 1) 0 c = true then 0 else 96 := by
  unfold usesE
  rw [show (longF (q + 2) a c).f4 = finB (q + 2) a c from rfl, fin_eq, usesB, List.range_eq_range', uses_mid, usesB, usesB]
  have h1 : blkUse (longF (q + 2) a c) (usK (longF (q + 2) a c)) 0 (fstB a) = bodyUse (longF (q + 2) a c) (usK (longF (q + 2) a c)) 0 0 a := by unfold blkUse fstB; simp [phiUse, termUse]
  have h2 : blkUse (longF (q + 2) a c) (usK (longF (q + 2) a c)) (0 + 1 + q) (lstB q c) = bodyUse (longF (q + 2) a c) (usK (longF (q + 2) a c)) ((q : Int) + 1) 0 c := by
    unfold blkUse lstB
    rw [show (0 : Int) + 1 + q = q + 1 from by omega]
    simp [phiUse, termUse]
  rw [h1, h2]
  simp
theorem long_check (ha : ∀ x ∈ a, x = 0 ∨ x = 1) (hc : ∀ x ∈ c, x = 0 ∨ x = 1) (hq : q ≤ 1000) (ho : onceE (longF (q + 2) a c) = 0) : checkE [longF (q + 2) a c] 0 = usesE (longF (q + 2) a c) (usK (longF (q + 2) a c)) := by
  have hG := long_good (q := q) ha hc
  have hF := facts_of hG (by show (longF (q + 2) a c).f4.length ≤ _; rw [long_len]; omega)
  have hr : reachE (dL q a c) (lineK (dL q a c).f) = 0 := (reachE_iff hF).2 (fun x hx => long_reach x hx)
  unfold checkE
  rw [if_pos (long_formed ha hc), firstE, firstE]
  have hfe : funcE (dOf [longF (q + 2) a c] 0 (longF (q + 2) a c)) = usesE (longF (q + 2) a c) (usK (longF (q + 2) a c)) := by
    show funcE (dL q a c) = _
    unfold funcE
    rw [show (dL q a c).f = longF (q + 2) a c from rfl] at hr ⊢
    rw [long_preds, hr, long_phis ha hc, ho, long_types ha]
    simp
  rw [hfe]
  split
  · rfl
  · rename_i h; exact (Classical.not_not.1 h).symm
theorem long_all (m : Nat) (hm : 2 ≤ m) (hm2 : m ≤ 1000) : checkE [longF m [0] [1]] 0 = 0 ∧ checkE [longF m [] [0, 1]] 0 = 0 ∧ checkE [longF m [] [1, 0]] 0 = 96 := by
  obtain ⟨q, rfl⟩ : ∃ q, m = q + 2 := ⟨m - 2, by omega⟩
  have a0 : argsOf (longF (q + 2) [0] [1]) 0 = [] := rfl
  refine ⟨?_, ?_, ?_⟩
  · have h0 : ∀ x ∈ ([0] : List Int), x = 0 ∨ x = 1 := by simp
    have h1 : ∀ x ∈ ([1] : List Int), x = 0 ∨ x = 1 := by simp
    have hT : onceT (longF (q + 2) [0] [1]) = ([0, (q : Int) + 1], [0, 0], [1, 1]) := by rw [long_once]; simp [putK, put3, zeros, wrap64]
    rw [long_check h0 h1 (by omega) (by unfold onceE; rw [hT]; rfl), long_uses, if_pos]
    refine ⟨rfl, ?_⟩
    show ([0] : List Int).all (useB (usK (longF (q + 2) [0] [1])) ((q : Int) + 1) 0) && true = true
    simp only [List.all_cons, List.all_nil, Bool.and_true]
    have hW : whereV (longF (q + 2) [0] [1]) 0 = 0 := by unfold whereV; rw [hT]; rfl
    have hG := long_good (q := q) h0 h1
    have hF := facts_of hG (by show (longF (q + 2) [0] [1]).f4.length ≤ _; rw [long_len]; omega)
    unfold useB
    rw [show (usK (longF (q + 2) [0] [1])).W.getD (0 : Int).toNat 0 = 0 from hW, if_neg (by omega)]
    have hF2 : Facts (longF (q + 2) [0] [1]) := hF
    have h5 := (seen_iff (v := 0) (b := (q : Int) + 1) hF2 (fun x hx => long_reach x hx) (by rw [ways_len]; simp only [inB, Bool.and_eq_true, decide_eq_true_eq]; omega) (by rw [hW, ways_len]; omega)).2 (.inr (by rw [hW]; exact Dm.of_zero _))
    rw [h5]; rfl
  · have h0 : ∀ x ∈ ([] : List Int), x = 0 ∨ x = 1 := by simp
    have h1 : ∀ x ∈ ([0, 1] : List Int), x = 0 ∨ x = 1 := by simp
    have hT : onceT (longF (q + 2) [] [0, 1]) = ([(q : Int) + 1, (q : Int) + 1], [0, 1], [1, 1]) := by rw [long_once]; simp [putK, put3, zeros, wrap64]
    rw [long_check h0 h1 (by omega) (by unfold onceE; rw [hT]; rfl), long_uses, if_pos]
    refine ⟨rfl, ?_⟩
    show (true && (([0] : List Int).all (useB (usK (longF (q + 2) [] [0, 1])) ((q : Int) + 1) (0 + 1)) && true)) = true
    simp only [List.all_cons, List.all_nil, Bool.and_true, Bool.true_and]
    unfold useB usK
    rw [hT]
    simp
  · have h0 : ∀ x ∈ ([] : List Int), x = 0 ∨ x = 1 := by simp
    have h1 : ∀ x ∈ ([1, 0] : List Int), x = 0 ∨ x = 1 := by simp
    have hT : onceT (longF (q + 2) [] [1, 0]) = ([(q : Int) + 1, (q : Int) + 1], [1, 0], [1, 1]) := by rw [long_once]; simp [putK, put3, zeros, wrap64]
    rw [long_check h0 h1 (by omega) (by unfold onceE; rw [hT]; rfl), long_uses, if_neg]
    rintro ⟨_, h⟩
    have h2 : (([0] : List Int).all (useB (usK (longF (q + 2) [] [1, 0])) ((q : Int) + 1) 0) && (true && true)) = true := h
    simp only [List.all_cons, List.all_nil, Bool.and_true] at h2
    unfold useB usK at h2
    rw [hT] at h2
    simp at h2
end
end Go.Proofs.Ytgbeliajhccndaa
