/- What comes in, opened: a reading of a type gives cells that a kind knows. -/
import Derived.Test.YteenkeccpfgffaaWWords
import Derived.ProofKit
import Derived.OpenShut
import Derived.SizedLaws
set_option linter.unusedVariables false
set_option linter.unusedSimpArgs false
namespace Go.Proofs.Yteenkeccpfgffaa
open Go.RowKit Go.Proofs.YteenkeccpfgffaaW.PrintWords

def Fits (P : Program) {H : Type} (t : TypeId) (d : DataW H) : Prop := ∀ n ∈ d.weights P t, n ≤ reachBytes
/-- A reading of type t gives something of kind d of which G holds. -/
structure Opens {α : Type} (P : Program) (t : TypeId) (d : Kd α) (G : α → Prop) : Prop where
  size_ : P.cellsOf t = d.sz
  open_ : ∀ {H : Type} {enc : TypeId × Value → H} {W : World} {spare : Nat → Bool} {held : Bool} {fuel : Nat} {cs : List Value} {x : DataW H × List MemPlace},
    DataW.trod enc P W 0 spare held fuel t cs = some x → Fits P t x.1 → ∃ a, d.K W a cs ∧ G a
structure OpensF {α : Type} (P : Program) (fs : List Field) (off : Nat) (d : Kd α) (G : α → Prop) : Prop where
  open_ : ∀ {H : Type} {enc : TypeId × Value → H} {W : World} {spare : Nat → Bool} {held : Bool} {n : Nat} {cs : List Value} {xs : List (DataW H × List MemPlace)},
    off + d.sz ≤ cs.length → xs.length = fs.length → (∀ (i : Nat) (f : Field), fs[i]? = some f → DataW.trod enc P W 0 spare held n f.type ((cs.drop f.offset).take (P.cellsOf f.type)) = xs[i]?) →
    (∀ m ∈ DataW.weightsEach P (fs.map (·.type)) (xs.map (·.1)), m ≤ reachBytes) → ∃ a, d.K W a ((cs.drop off).take d.sz) ∧ G a

theorem list_of {α : Type} {p : Nat → α → Prop} : ∀ n : Nat, (∀ i, i < n → ∃ a, p i a) → ∃ l : List α, l.length = n ∧ ∀ i a, l[i]? = some a → p i a
  | 0, _ => ⟨[], rfl, fun i a h => by simp at h⟩
  | n + 1, h => by
    obtain ⟨l, hl, hp⟩ := list_of n (fun i hi => h i (by omega))
    obtain ⟨a, ha⟩ := h n (by omega)
    refine ⟨l ++ [a], by simp [hl], fun i b hb => ?_⟩
    rcases Nat.lt_or_ge i l.length with hi | hi
    · rw [List.getElem?_append_left hi] at hb
      exact hp i b hb
    · have hi2 : i = n := by
        have := (List.getElem?_eq_some_iff.1 hb).1
        simp at this
        omega
      subst hi2
      rw [← hl] at hb
      simp at hb
      exact hb ▸ ha
theorem weights_all_mem {H : Type} {P : Program} {e : TypeId} : ∀ {l : List (DataW H)} {i : Nat} {d : DataW H}, l[i]? = some d → ∀ n ∈ d.weights P e, n ∈ DataW.weightsAll P e l
  | x :: r, 0, d, h, n, hn => by
    simp only [List.getElem?_cons_zero, Option.some.injEq] at h
    subst h
    simp only [DataW.weightsAll, List.mem_append]
    exact .inl hn
  | x :: r, i + 1, d, h, n, hn => by
    simp only [List.getElem?_cons_succ] at h
    simp only [DataW.weightsAll, List.mem_append]
    exact .inr (weights_all_mem h n hn)
  | [], i, d, h, n, hn => by simp at h
section
variable {α β : Type} {P : Program} {t e : TypeId} {d : Kd α} {d2 : Kd β} {G : α → Prop} {G2 : β → Prop}
theorem Opens.int {k : IntKind} (ht : P.underlying t = some (.int k)) (hs : P.cellsOf t = 1) : Opens P t (Kd.int k) (fun n => (Lit.int k n).wf = true) :=
  ⟨hs, fun h _ => by obtain ⟨n, rfl, _, hw⟩ := DataW.trod_int ht h; exact ⟨n, rfl, hw⟩⟩
theorem Opens.bool (ht : P.underlying t = some .bool) (hs : P.cellsOf t = 1) : Opens P t Kd.bool (fun _ => True) :=
  ⟨hs, fun h _ => by obtain ⟨n, rfl, _⟩ := DataW.trod_bool ht h; exact ⟨n, rfl, trivial⟩⟩
theorem Opens.string (ht : P.underlying t = some .string) (hs : P.cellsOf t = 1) : Opens P t Kd.string (fun s => s.size ≤ 140737488351232) :=
  ⟨hs, fun {H enc W spare held fuel cs x} h hf => by
    obtain ⟨s, rfl, rfl, _⟩ := DataW.trod_string ht h
    refine ⟨s, rfl, ?_⟩
    have := hf s.data.toList.length (by simp [DataW.weights])
    rw [Array.length_toList] at this
    exact this⟩
theorem add_add' (a : Addr) (i j : Nat) : (a.add i).add j = a.add (i + j) := by
  unfold Addr.add
  by_cases hi : i = 0 <;> by_cases hj : j = 0 <;> simp [hi, hj, Nat.add_assoc]
theorem Opens.slice {bytes : Nat} (ht : P.underlying t = some (.slice e)) (hs : P.cellsOf t = 1) (hb : P.bytesOf e = bytes) (ho : Opens P e d G) :
    Opens P t (Kd.slice e d) (fun l => l.length * bytes ≤ 140737488351232 ∧ ∀ a ∈ l, G a) := by
  refine ⟨hs, fun {H enc W spare held fuel cs x} h hf => ?_⟩
  rcases DataW.trod_slice ht h with ⟨rfl, rfl⟩ | ⟨a, len, cap, elems, rest, n, rfl, rfl, rfl, _, hl, hm, hlen, hel, _, _⟩
  · exact ⟨[], ⟨none, 0, rfl, Nat.le_refl _, Kd.C_nil d W⟩, by simp, by simp⟩
  · have hw : ∀ n ∈ ((elems.map (·.1)).length + (rest.map (·.1)).length) * P.bytesOf e :: (DataW.weightsAll P e (elems.map (·.1)) ++ DataW.weightsAll P e (rest.map (·.1))), n ≤ reachBytes := by
      intro n hn
      refine hf n ?_
      simpa only [DataW.weights, ht] using hn
    have one : ∀ i, i < len → ∃ b : α, (∃ c, c.length = d.sz ∧ d.K W b c ∧ ∀ j u, c[j]? = some u → W.cell? (a.add (i * d.sz + j)) = some u) ∧ G b := by
      intro i hi
      have h1 := hel i hi
      rw [List.getElem?_eq_getElem (by omega)] at h1
      obtain ⟨c, hc, htr⟩ := Option.bind_eq_some_iff.1 h1
      obtain ⟨b, hK, hG⟩ := ho.open_ htr (fun n hn => hw n (List.mem_cons_of_mem _ (List.mem_append_left _ (weights_all_mem (i := i) (by rw [List.getElem?_map, List.getElem?_eq_getElem (by omega)]; rfl) n hn))))
      obtain ⟨_, hcl, hcc⟩ := World.cells?_some hc
      rw [ho.size_] at hcl hcc
      refine ⟨b, ⟨c, hcl, hK, fun j u hu => ?_⟩, hG⟩
      have hj : j < d.sz := by rw [← hcl]; exact (List.getElem?_eq_some_iff.1 hu).1
      have := hcc j hj
      rw [add_add', hu] at this
      exact this
    obtain ⟨l, hll, hp⟩ := list_of len one
    refine ⟨l, ⟨some a, cap, by rw [hll], by omega, hll ▸ rfl, ?_, fun _ => ⟨a, rfl, fun j p hj => (hp j p hj).1⟩⟩, ?_, fun b hbm => ?_⟩
    · rw [hll]
      simp only [maxLen] at hm
      omega
    · have := hw _ (List.mem_cons_self ..)
      rw [hb, List.length_map, List.length_map, Nat.add_mul] at this
      rw [hll, ← hlen]
      simp only [reachBytes] at this
      omega
    · obtain ⟨i, hi⟩ := List.getElem?_of_mem hbm
      exact (hp i b hi).2
theorem Opens.iso (f : β → α) (g : α → β) (hfg : ∀ a, f (g a) = a) (ho : Opens P t d G) : Opens P t (Kd.iso d f) (fun b => G (f b)) :=
  ⟨ho.size_, fun h hf => by
    obtain ⟨a, hK, hG⟩ := ho.open_ h hf
    exact ⟨g a, by show d.K _ (f (g a)) _; rw [hfg]; exact hK, by rw [hfg]; exact hG⟩⟩
theorem OpensF.last {f : Field} {off : Nat} (hoff : f.offset = off) (ho : Opens P f.type d G) : OpensF P [f] off d G := by
  constructor
  intro H enc W spare held n cs xs hl hx hall hw
  match xs, hx with
  | [x], _ =>
    have h0 := hall 0 f rfl
    rw [hoff, ho.size_] at h0
    exact ho.open_ h0 (fun m hm => hw m (by simpa [DataW.weightsEach] using hm))
theorem OpensF.cons {f : Field} {fs : List Field} {off : Nat} (hoff : f.offset = off) (ho : Opens P f.type d G) (hr : OpensF P fs (off + d.sz) d2 G2) :
    OpensF P (f :: fs) off (Kd.pair d d2) (fun x => G x.1 ∧ G2 x.2) := by
  constructor
  intro H enc W spare held n cs xs hl hx hall hw
  have hl' : off + (d.sz + d2.sz) ≤ cs.length := hl
  match xs, hx with
  | x :: xs, hx =>
    have h0 := hall 0 f rfl
    rw [hoff, ho.size_] at h0
    obtain ⟨a, hK, hG⟩ := ho.open_ h0 (fun m hm => hw m (by simp only [List.map_cons, DataW.weightsEach, List.mem_append]; exact .inl hm))
    obtain ⟨b, hK2, hG2⟩ := hr.open_ (cs := cs) (xs := xs) (by omega) (by simpa using hx) (fun i f hi => hall (i + 1) f hi) (fun m hm => hw m (by simp only [List.map_cons, DataW.weightsEach, List.mem_append]; exact .inr hm))
    refine ⟨(a, b), ⟨_, _, ?_, hK, hK2⟩, hG, hG2⟩
    show (cs.drop off).take (d.sz + d2.sz) = _
    rw [List.take_add, List.drop_drop]
theorem Opens.struct {fs : Array Field} {l : List Field} (ht : P.underlying t = some (.struct fs)) (hl : fs.toList = l) (hs : P.cellsOf t = d.sz) (ho : OpensF P l 0 d G) : Opens P t d G := by
  refine ⟨hs, fun {H enc W spare held fuel cs x} h hf => ?_⟩
  obtain ⟨xs, n, rfl, rfl, hcl, hxl, hall⟩ := DataW.trod_struct ht h
  subst hl
  obtain ⟨a, hK, hG⟩ := ho.open_ (cs := cs) (xs := xs) (by rw [hcl, hs]; omega) (by simpa using hxl) (fun i f hi => hall i f (by simpa using hi)) (fun m hm => hf m (by simpa only [DataW.weights, ht] using hm))
  refine ⟨a, ?_, hG⟩
  rw [List.drop_zero, List.take_of_length_le (by rw [hcl, hs]; exact Nat.le_refl _)] at hK
  exact hK
end
end Go.Proofs.Yteenkeccpfgffaa
