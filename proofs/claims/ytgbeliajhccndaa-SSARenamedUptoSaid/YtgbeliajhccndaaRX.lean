/- Lemmas of this claim (VG). -/
import Derived.Test.YtgbeliajhccndaaRV
set_option linter.unusedVariables false
set_option linter.unusedSimpArgs false
namespace Go.Proofs.Ytgbeliajhccndaa
open Go.RowKit Go.Proofs.YtgbeliajhccndaaW.PrintWords Go.Proofs.YtgbeliajhccndaaW.PrintLast Go.Proofs.YtgbeliajhccndaaW.PrintMore PP
section
variable {f : S38} {b : Nat} {fs : List S38} {mn : Int}
theorem ren_ways : waysL (renF b f) = waysL f := by
  show (f.f4.map (renB f.f3.length b)).map _ = _
  rw [List.map_map]
  rfl
theorem ren_line : lineK (renF b f) = lineK f := by unfold lineK; rw [ren_ways]
theorem ren_walk : walkK (renF b f) = walkK f := by unfold walkK treeK; rw [ren_ways]
theorem ren_len4 : (renF b f).f4.length = f.f4.length := by
  show (f.f4.map _).length = _
  rw [List.length_map]
theorem ren_lead : leadOf (renF b f) = leadOf f := by unfold leadOf; rw [ren_ways, ren_len4]
theorem ren_preds : ∀ (l : List S46) (i n : Nat), predsB (renF b f) i (l.map (renB n b)) = predsB f i l
  | [], _, _ => rfl
  | x :: r, i, n => by
    show (predB (renF b f) i (renB n b x) && predsB (renF b f) (i + 1) (r.map _)) = _
    rw [ren_preds r (i + 1) n]
    have : predB (renF b f) i (renB n b x) = predB f i x := by
      unfold predB
      rw [ren_lead]
      rfl
    rw [this]
    rfl
theorem ren_predsE : predsE (renF b f) = predsE f := by
  unfold predsE
  have : predsB (renF b f) 0 (renF b f).f4 = predsB f 0 f.f4 := ren_preds f.f4 0 _
  rw [this]
theorem ren_reachE {fs' : List S38} : reachE (dOf fs' mn (renF b f)) (lineK (renF b f)) = reachE (dOf fs mn f) (lineK f) := by
  unfold reachE
  show (if (reachL (waysL (renF b f)).length (lineK (renF b f))).all id = true then (0 : Int) else 92) = _
  rw [ren_line, ren_ways]
  rfl
theorem ren_args {v : Int} (hv : inB f.f3.length v = true) : argsOf (renF b f) (turnI f.f3.length b v) = (argsOf f v).map (turnI f.f3.length b) := by unfold argsOf; rw [ren_rd hv]; rfl
theorem rd_mem {v : Int} (hv : inB f.f3.length v = true) : rd_T42 f.f3 v ∈ f.f3 := by
  obtain ⟨v0, v1⟩ := inB_iff hv
  exact mem_getD z42 (by omega)
theorem arg_in (H : Num f) {v : Int} (hv : inB f.f3.length v = true) : (argsOf f v).all (inB f.f3.length) = true := H.al _ (rd_mem hv)
theorem ren_phisE (H : Num f) : phisE (renF b f) = phisE f := by
  unfold phisE
  have h0 : ((renF b f).f4.getD 0 z46).f0.length = (f.f4.getD 0 z46).f0.length := by
    show ((f.f4.map (renB f.f3.length b)).getD 0 z46).f0.length = _
    cases f.f4 with
    | nil => rfl
    | cons x r =>
      show (x.f0.map _).length = x.f0.length
      rw [List.length_map]
  have h1 : (renF b f).f4.all (phisBlk (renF b f)) = f.f4.all (phisBlk f) := by
    show (f.f4.map _).all _ = _
    rw [List.all_map]
    have key : ∀ x ∈ f.f4, phisBlk (renF b f) (renB f.f3.length b x) = phisBlk f x := fun x hx => by
      obtain ⟨p0, p1, p2⟩ := H.bl x hx
      unfold phisBlk
      have e0 : (renB f.f3.length b x).f0.all (phiB (renF b f) (renB f.f3.length b x).f3.length) = x.f0.all (phiB f x.f3.length) := map_all p0 (fun v hv => by
        unfold phiB
        rw [ren_op hv, ren_rd hv]
        show (opAt f v == 32 && (((rd_T42 f.f3 v).f3.map _).length : Int) == _) = _
        rw [List.length_map]
        rfl)
      have e1 : (renB f.f3.length b x).f1.all (fun v => opAt (renF b f) v != 32) = x.f1.all (fun v => opAt f v != 32) := map_all p1 (fun v hv => by rw [ren_op hv])
      rw [e0, e1]
    rw [Bool.eq_iff_iff, List.all_eq_true, List.all_eq_true]
    exact ⟨fun h x hx => by rw [← key x hx]; exact h x hx, fun h x hx => by show phisBlk (renF b f) (renB f.f3.length b x) = true; rw [key x hx]; exact h x hx⟩
  rw [h0, h1]
structure RelT (n b : Nat) (s S : Tri) : Prop where
  a1 : s.1.length = n ∧ s.2.1.length = n ∧ s.2.2.length = n
  a2 : S.1.length = n ∧ S.2.1.length = n ∧ S.2.2.length = n
  at_ : ∀ v, inB n v = true → S.1.getD (turnI n b v).toNat 0 = s.1.getD v.toNat 0 ∧ S.2.1.getD (turnI n b v).toNat 0 = s.2.1.getD v.toNat 0 ∧ S.2.2.getD (turnI n b v).toNat 0 = s.2.2.getD v.toNat 0
theorem set_rel {n : Nat} {l L : List Int} {v u x y : Int} (hl : l.length = n) (hL : L.length = n) (hv : inB n v = true) (hu : inB n u = true) (h : L.getD (turnI n b u).toNat 0 = l.getD u.toNat 0) (hxy : x = y) : (L.set (turnI n b v).toNat x).getD (turnI n b u).toNat 0 = (l.set v.toNat y).getD u.toNat 0 := by
  subst hxy
  obtain ⟨v0, v1⟩ := inB_iff hv
  obtain ⟨u0, u1⟩ := inB_iff hu
  obtain ⟨t0, t1⟩ := inB_iff (turn_in (by_ := b) hv)
  obtain ⟨w0, w1⟩ := inB_iff (turn_in (by_ := b) hu)
  by_cases e : v = u
  · subst e
    rw [List.getD_eq_getElem?_getD, List.getElem?_set_self (by omega), List.getD_eq_getElem?_getD, List.getElem?_set_self (by omega)]
  · have hne : (turnI n b v).toNat ≠ (turnI n b u).toNat := fun h2 => e (turn_inj (b := b) hv hu (by omega))
    rw [List.getD_eq_getElem?_getD, List.getElem?_set_ne hne, List.getD_eq_getElem?_getD, List.getElem?_set_ne (by omega), ← List.getD_eq_getElem?_getD, ← List.getD_eq_getElem?_getD]
    exact h
theorem RelT.put {n : Nat} {s S : Tri} (h : RelT n b s S) {v : Int} (hv : inB n v = true) (x k : Int) : RelT n b (put3 s v x k) (put3 S (turnI n b v) x k) := by
  obtain ⟨p1, p2, p3⟩ := h.a1
  obtain ⟨q1, q2, q3⟩ := h.a2
  refine ⟨by simp [put3, p1, p2, p3], by simp [put3, q1, q2, q3], fun u hu => ?_⟩
  obtain ⟨h1, h2, h3⟩ := h.at_ u hu
  exact ⟨set_rel p1 q1 hv hu h1 rfl, set_rel p2 q2 hv hu h2 rfl, set_rel p3 q3 hv hu h3 (by rw [(h.at_ v hv).2.2])⟩
theorem RelT.putL {n : Nat} {x : Int} : ∀ (l : List Int) {s S : Tri}, l.all (inB n) = true → RelT n b s S → RelT n b (putL x s l) (putL x S (l.map (turnI n b)))
  | [], _, _, _, h => h
  | v :: r, s, S, hl, h => by
    rw [List.all_cons, Bool.and_eq_true] at hl
    exact RelT.putL r hl.2 (h.put hl.1 x (-1))
theorem RelT.putK {n : Nat} {x : Int} : ∀ (l : List Int) {s S : Tri} {k : Int}, l.all (inB n) = true → RelT n b s S → RelT n b (putK x s k l) (putK x S k (l.map (turnI n b)))
  | [], _, _, _, _, h => h
  | v :: r, s, S, k, hl, h => by
    rw [List.all_cons, Bool.and_eq_true] at hl
    exact RelT.putK r hl.2 (h.put hl.1 x k)
theorem RelT.putBs {n : Nat} : ∀ (l : List S46) {s S : Tri} {i : Int}, (∀ x ∈ l, x.f0.all (inB n) = true ∧ x.f1.all (inB n) = true) → RelT n b s S → RelT n b (putBs s i l) (putBs S i (l.map (renB n b)))
  | [], _, _, _, _, h => h
  | x :: r, s, S, i, hl, h => by
    obtain ⟨h0, h1⟩ := hl x (by simp)
    exact RelT.putBs r (fun y hy => hl y (by simp [hy])) (RelT.putK x.f1 h1 (RelT.putL x.f0 h0 h))
theorem ren_once (H : Num f) : RelT f.f3.length b (onceT f) (onceT (renF b f)) := by
  have hz : RelT f.f3.length b (zeros f.f3.length) (zeros f.f3.length) := by
    refine ⟨by simp [zeros], by simp [zeros], fun v hv => ?_⟩
    obtain ⟨v0, v1⟩ := inB_iff hv
    obtain ⟨t0, t1⟩ := inB_iff (turn_in (by_ := b) hv)
    have e : ∀ i, (List.replicate f.f3.length (0 : Int)).getD i 0 = 0 := fun i => by
      rw [List.getD_eq_getElem?_getD, List.getElem?_replicate]
      split <;> rfl
    exact ⟨by show (List.replicate _ _).getD _ 0 = (List.replicate _ _).getD _ 0; rw [e, e], by show (List.replicate _ _).getD _ 0 = (List.replicate _ _).getD _ 0; rw [e, e], by show (List.replicate _ _).getD _ 0 = (List.replicate _ _).getD _ 0; rw [e, e]⟩
  have := RelT.putBs f.f4 (i := 0) (fun x hx => ⟨(H.bl x hx).1, (H.bl x hx).2.1⟩) (RelT.putL (x := -1) f.f1 H.par hz)
  unfold onceT
  rw [ren_len]
  exact this
theorem all_one {n : Nat} {l : List Int} (hl : l.length = n) : l.all (fun x => x == 1) = true ↔ ∀ v, inB n v = true → l.getD v.toNat 0 = 1 := by
  rw [List.all_eq_true]
  constructor
  · intro h v hv
    obtain ⟨v0, v1⟩ := inB_iff hv
    have := h _ (mem_getD 0 (show v.toNat < l.length by omega))
    simpa using this
  · intro h x hx
    obtain ⟨i, hi, e⟩ := List.mem_iff_getElem.1 hx
    have := h (i : Int) (inB_nat (by omega))
    rw [Int.toNat_natCast, List.getD_eq_getElem?_getD, List.getElem?_eq_getElem hi, e] at this
    simpa using this
theorem ren_onceE (H : Num f) : onceE (renF b f) = onceE f := by
  have h := ren_once (b := b) H
  unfold onceE
  have : (onceT (renF b f)).2.2.all (fun x => x == 1) = (onceT f).2.2.all (fun x => x == 1) := by
    rw [Bool.eq_iff_iff, all_one h.a2.2.2, all_one h.a1.2.2]
    constructor
    · intro g v hv
      rw [← (h.at_ v hv).2.2]
      exact g _ (turn_in hv)
    · intro g u hu
      obtain ⟨v, hv, e⟩ := turn_surj (b := b) hu
      rw [← e, (h.at_ v hv).2.2]
      exact g v hv
  rw [this]
structure RelU (n b : Nat) (u U : Us) : Prop where
  seen : ∀ v p, inB n v = true → seenB U (turnI n b v) p = seenB u v p
  use : ∀ v i k, inB n v = true → useB U i k (turnI n b v) = useB u i k v
theorem RelU.mk' {n b : Nat} {F L W A W' A' : List Int} (h : ∀ v, inB n v = true → W'.getD (turnI n b v).toNat 0 = W.getD v.toNat 0 ∧ A'.getD (turnI n b v).toNat 0 = A.getD v.toNat 0) : RelU n b ⟨F, L, W, A⟩ ⟨F, L, W', A'⟩ := by
  have hs : ∀ v p, inB n v = true → seenB ⟨F, L, W', A'⟩ (turnI n b v) p = seenB ⟨F, L, W, A⟩ v p := fun v p hv => by
    unfold seenB
    dsimp only
    rw [(h v hv).1]
  refine ⟨hs, fun v i k hv => ?_⟩
  unfold useB
  rw [hs v i hv]
  dsimp only
  rw [(h v hv).1, (h v hv).2]
section
variable {u U : Us}
theorem ren_pairs (R : RelU f.f3.length b u U) : ∀ (l s : List Int), l.all (inB f.f3.length) = true → pairsB U (l.map (turnI f.f3.length b)) s = pairsB u l s
  | [], _, _ => rfl
  | _ :: _, [], _ => rfl
  | a :: r, p :: s, hl => by
    rw [List.all_cons, Bool.and_eq_true] at hl
    rw [List.map_cons, pairsB, pairsB, R.seen a p hl.1, ren_pairs R r s hl.2]
theorem ren_phiUse (H : Num f) (R : RelU f.f3.length b u U) (ps : List Int) : ∀ (l : List Int), l.all (inB f.f3.length) = true → phiUse (renF b f) U ps (l.map (turnI f.f3.length b)) = phiUse f u ps l
  | [], _ => rfl
  | v :: r, hl => by
    rw [List.all_cons, Bool.and_eq_true] at hl
    rw [List.map_cons, phiUse, phiUse, ren_args hl.1, ren_pairs R _ _ (arg_in H hl.1), ren_phiUse H R ps r hl.2]
theorem ren_bodyUse (H : Num f) (R : RelU f.f3.length b u U) (i : Int) : ∀ (l : List Int) (k : Int), l.all (inB f.f3.length) = true → bodyUse (renF b f) U i k (l.map (turnI f.f3.length b)) = bodyUse f u i k l
  | [], _, _ => rfl
  | v :: r, k, hl => by
    rw [List.all_cons, Bool.and_eq_true] at hl
    rw [List.map_cons, bodyUse, bodyUse, ren_args hl.1, map_all (q := useB u i k) (arg_in H hl.1) (fun v hv => R.use v i k hv), ren_bodyUse H R i r (k + 1) hl.2]
theorem ren_blk (H : Num f) (R : RelU f.f3.length b u U) (i : Int) {x : S46} (hx : x ∈ f.f4) : blkUse (renF b f) U i (renB f.f3.length b x) = blkUse f u i x := by
  obtain ⟨p0, p1, p2⟩ := H.bl x hx
  have e0 : phiUse (renF b f) U (renB f.f3.length b x).f3 (renB f.f3.length b x).f0 = phiUse f u x.f3 x.f0 := ren_phiUse H R _ _ p0
  have e1 : bodyUse (renF b f) U i 0 (renB f.f3.length b x).f1 = bodyUse f u i 0 x.f1 := ren_bodyUse H R i _ 0 p1
  have e2 : termUse U i (renB f.f3.length b x) = termUse u i x := by
    unfold termUse
    show (decide (turnI f.f3.length b x.f2.f1 < 0) || seenB U (turnI f.f3.length b x.f2.f1) i) = _
    by_cases h0 : x.f2.f1 < 0
    · rw [turn_neg h0, decide_eq_true h0, Bool.true_or, Bool.true_or]
    · have hi : inB f.f3.length x.f2.f1 = true := by simp [inB]; omega
      have ht := inB_iff (turn_in (by_ := b) hi)
      rw [R.seen _ i hi, decide_eq_false h0, decide_eq_false (by omega)]
  unfold blkUse
  rw [e0, e1, e2]
theorem ren_uses (H : Num f) (R : RelU f.f3.length b u U) : ∀ (l : List S46) (i : Int), (∀ x ∈ l, x ∈ f.f4) → usesB (renF b f) U i (l.map (renB f.f3.length b)) = usesB f u i l
  | [], _, _ => rfl
  | x :: r, i, hl => by
    rw [List.map_cons, usesB, usesB, ren_blk H R i (hl x (by simp)), ren_uses H R r (i + 1) (fun y hy => hl y (by simp [hy]))]
end
theorem ren_us (H : Num f) : RelU f.f3.length b (usK f) (usK (renF b f)) := by
  unfold usK
  rw [ren_walk]
  refine RelU.mk' (fun v hv => ?_)
  obtain ⟨h1, h2, _⟩ := (ren_once (b := b) H).at_ v hv
  exact ⟨h1, h2⟩
theorem usesE_of {f : S38} {g : S38} {u U : Us} (h : usesB g U 0 g.f4 = usesB f u 0 f.f4) : usesE g U = usesE f u := by
  unfold usesE
  rw [h]
theorem ren_usesE (H : Num f) : usesE (renF b f) (usK (renF b f)) = usesE f (usK f) :=
  usesE_of (ren_uses H (ren_us H) f.f4 0 (fun _ h => h))
theorem ren_are : ∀ (l s : List Int), l.all (inB f.f3.length) = true → areB (renF b f) (l.map (turnI f.f3.length b)) s = areB f l s
  | [], _, _ => rfl
  | _ :: _, [], _ => rfl
  | a :: r, t :: s, hl => by
    rw [List.all_cons, Bool.and_eq_true] at hl
    show (typeOf _ _ == t && areB _ (r.map _) s) = _
    rw [ren_ty hl.1, ren_are r s hl.2]
    rfl
theorem ren_callB {h : S38} : ∀ (l s : List Int), l.all (inB f.f3.length) = true → s.all (inB h.f3.length) = true → callB (renF b f) (renF b h) (l.map (turnI f.f3.length b)) (s.map (turnI h.f3.length b)) = callB f h l s
  | [], _, _, _ => rfl
  | _ :: _, [], _, _ => rfl
  | a :: r, q :: s, hl, hs => by
    rw [List.all_cons, Bool.and_eq_true] at hl hs
    show ((typeOf (renF b h) _ != 0 && typeOf (renF b f) _ == typeOf (renF b h) _) && callB _ _ (r.map _) (s.map _)) = _
    rw [ren_ty hl.1, ren_ty hs.1, ren_callB r s hl.2 hs.2]
    rfl
theorem num_rd (H : ∀ f ∈ fs, Num f) (i : Int) : (rd_T38 fs i).f1.all (inB (rd_T38 fs i).f3.length) = true := by
  unfold rd_T38
  rcases Nat.lt_or_ge i.toNat fs.length with h | h
  · exact (H _ (mem_getD z38 h)).par
  · rw [List.getD_eq_getElem?_getD, List.getElem?_eq_none h]
    rfl
theorem ren_fits (HS : ∀ f ∈ fs, Num f) (H : Num f) {v : S42} (hm : v ∈ f.f3) (hv : valueB fs v = true) : fitsB (dOf (fs.map (renF b)) mn (renF b f)) (renV f.f3.length b v) = fitsB (dOf fs mn f) v := by
  have hal := H.al v hm
  unfold fitsB
  show (if v.f0 = 1 then _ else if v.f0 = 13 ∨ v.f0 = 14 then (v.f1 == 2 && typeOf (renF b f) ((v.f3.map (turnI f.f3.length b)).getD 0 0) != 0) && areB (renF b f) (v.f3.map (turnI f.f3.length b)) [typeOf (renF b f) ((v.f3.map (turnI f.f3.length b)).getD 0 0), typeOf (renF b f) ((v.f3.map (turnI f.f3.length b)).getD 0 0)] else if v.f0 = 25 then calledB (dOf (fs.map (renF b)) mn (renF b f)) v.f1 v.f2 (v.f3.map (turnI f.f3.length b)) else if v.f0 = 32 then v.f1 != 0 && (v.f3.map (turnI f.f3.length b)).all (fun a => typeOf (renF b f) a == v.f1) else if v.f0 = 33 then v.f1 != 0 else v.f1 == (wantB v.f0).2 && areB (renF b f) (v.f3.map (turnI f.f3.length b)) (wantB v.f0).1) = _
  by_cases c1 : v.f0 = 1
  · rw [if_pos c1, if_pos c1]
    rfl
  rw [if_neg c1, if_neg c1]
  by_cases c2 : v.f0 = 13 ∨ v.f0 = 14
  · rw [if_pos c2, if_pos c2, ren_are _ _ hal]
    have hlen : 0 < v.f3.length := by
      unfold valueB at hv
      rw [Bool.and_eq_true] at hv
      have h2 := hv.2
      rw [if_neg (by omega), if_neg (by omega), if_neg (by omega), if_neg (by omega), if_neg (by omega)] at h2
      simp only [Bool.and_eq_true, beq_iff_eq] at h2
      have h3 := h2.1.2
      have h4 : operandsI v.f0 = 2 := by
        unfold operandsI
        rcases c2 with e | e <;> rw [e] <;> decide
      omega
    have hi : inB f.f3.length (v.f3.getD 0 0) = true := List.all_eq_true.1 hal _ (mem_getD 0 hlen)
    have hg : (v.f3.map (turnI f.f3.length b)).getD 0 0 = turnI f.f3.length b (v.f3.getD 0 0) := by
      rw [List.getD_eq_getElem?_getD, List.getElem?_map, List.getElem?_eq_getElem hlen, List.getD_eq_getElem?_getD, List.getElem?_eq_getElem hlen]
      rfl
    rw [hg, ren_ty hi]
    rfl
  rw [if_neg c2, if_neg c2]
  by_cases c3 : v.f0 = 25
  · rw [if_pos c3, if_pos c3]
    unfold calledB
    show (callB (renF b f) (rd_T38 (fs.map (renF b)) v.f2) _ (rd_T38 (fs.map (renF b)) v.f2).f1 && v.f1 == (rd_T38 (fs.map (renF b)) v.f2).f2) = _
    rw [rd_ren]
    have : callB (renF b f) (renF b (rd_T38 fs v.f2)) (v.f3.map (turnI f.f3.length b)) (renF b (rd_T38 fs v.f2)).f1 = callB f (rd_T38 fs v.f2) v.f3 (rd_T38 fs v.f2).f1 := ren_callB _ _ hal (num_rd HS v.f2)
    rw [this]
    rfl
  rw [if_neg c3, if_neg c3]
  by_cases c4 : v.f0 = 32
  · rw [if_pos c4, if_pos c4, map_all hal (fun x hx => by rw [ren_ty hx])]
    rfl
  rw [if_neg c4, if_neg c4]
  by_cases c5 : v.f0 = 33
  · rw [if_pos c5, if_pos c5]
  rw [if_neg c5, if_neg c5, ren_are _ _ hal]
  rfl
theorem ren_end (H : Num f) {x : S46} (hx : x ∈ f.f4) : endB (renF b f) (renB f.f3.length b x) = endB f x := by
  obtain ⟨p0, p1, p2⟩ := H.bl x hx
  unfold endB
  show (if 0 ≤ turnI f.f3.length b x.f2.f1 then typeOf (renF b f) (turnI f.f3.length b x.f2.f1) == wantT (renF b f) x.f2.f0 else true) = _
  by_cases h0 : x.f2.f1 < 0
  · rw [turn_neg h0, if_neg (by omega), if_neg (by omega)]
  · have hi : inB f.f3.length x.f2.f1 = true := by simp [inB]; omega
    have ht := inB_iff (turn_in (by_ := b) hi)
    rw [if_pos ht.1, if_pos (by omega), ren_ty hi]
    rfl
theorem ren_typesE (HS : ∀ f ∈ fs, Num f) (H : Num f) (hv : ∀ v ∈ f.f3, valueB fs v = true) : typesE (dOf (fs.map (renF b)) mn (renF b f)) = typesE (dOf fs mn f) := by
  unfold typesE typesB
  have e0 : (renF b f).f3.all (fitsB (dOf (fs.map (renF b)) mn (renF b f))) = f.f3.all (fitsB (dOf fs mn f)) := ren_all (fun v hm => ren_fits HS H hm (hv v hm))
  have e1 : (renF b f).f4.all (endB (renF b f)) = f.f4.all (endB f) := by
    show (f.f4.map _).all _ = _
    rw [List.all_map, Bool.eq_iff_iff, List.all_eq_true, List.all_eq_true]
    exact ⟨fun h x hx => by rw [← ren_end (b := b) H hx]; exact h x hx, fun h x hx => by show endB (renF b f) (renB f.f3.length b x) = true; rw [ren_end H hx]; exact h x hx⟩
  show (if ((renF b f).f3.all _ && (renF b f).f4.all (endB (renF b f))) = true then (0 : Int) else 95) = _
  rw [e0, e1]
  rfl
theorem ren_funcE (HS : ∀ f ∈ fs, Num f) (H : Num f) (hv : ∀ v ∈ f.f3, valueB fs v = true) : funcE (dOf (fs.map (renF b)) mn (renF b f)) = funcE (dOf fs mn f) := by
  unfold funcE
  rw [ren_typesE HS H hv]
  show (if predsE (renF b f) ≠ 0 then predsE (renF b f) else if reachE (dOf (fs.map (renF b)) mn (renF b f)) (lineK (renF b f)) ≠ 0 then reachE (dOf (fs.map (renF b)) mn (renF b f)) (lineK (renF b f)) else if phisE (renF b f) ≠ 0 then phisE (renF b f) else if onceE (renF b f) ≠ 0 then onceE (renF b f) else if typesE (dOf fs mn f) ≠ 0 then typesE (dOf fs mn f) else usesE (renF b f) (usK (renF b f))) = _
  rw [ren_predsE, ren_reachE (fs := fs) (mn := mn), ren_phisE H, ren_onceE H, ren_usesE H]
  rfl
theorem ren_first (HS : ∀ f ∈ fs, Num f) (hv : ∀ f ∈ fs, ∀ v ∈ f.f3, valueB fs v = true) : ∀ (l : List S38), (∀ f ∈ l, f ∈ fs) → firstE (fs.map (renF b)) mn (l.map (renF b)) = firstE fs mn l
  | [], _ => rfl
  | f :: r, hl => by
    show (if funcE (dOf (fs.map (renF b)) mn (renF b f)) ≠ 0 then funcE (dOf (fs.map (renF b)) mn (renF b f)) else firstE (fs.map (renF b)) mn (r.map (renF b))) = _
    rw [ren_funcE HS (HS f (hl f (by simp))) (hv f (hl f (by simp))), ren_first HS hv r (fun g hg => hl g (by simp [hg]))]
    rfl
theorem ren_check (HS : ∀ f ∈ fs, Num f) : checkE (fs.map (renF b)) mn = checkE fs mn := by
  unfold checkE
  rw [ren_formed HS]
  by_cases hf : formedB fs mn = true
  · rw [if_pos hf, if_pos hf]
    refine ren_first HS (fun f hm v hv => ?_) fs (fun _ h => h)
    obtain ⟨i, hi, e⟩ := List.mem_iff_getElem.1 hm
    have h1 := formedB_fun hf hi
    have e2 : rd_T38 fs (i : Int) = f := by unfold rd_T38; rw [Int.toNat_natCast, List.getD_eq_getElem?_getD, List.getElem?_eq_getElem hi, e]; rfl
    rw [e2] at h1
    unfold funcB at h1
    simp only [Bool.and_eq_true] at h1
    have := List.all_eq_true.1 h1.1.1.2 v hv
    unfold qB at this
    rw [Bool.and_eq_true] at this
    exact this.2
  · rw [if_neg hf, if_neg hf]
end
end Go.Proofs.Ytgbeliajhccndaa
