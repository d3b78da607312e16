/- Walks of lex.class, lex.reader.rest (chapter 2). Walks of lex.reader.stretch and skip (chapter 2). The state of a lex.reader in memory; the walk of skip (chapter 2). Walks of lex.word, two, one (chapter 2). Walks of lex.word and lex.one (chapter 2). Walks of lex.reader.name (chapter 2). Walks of lex.reader.name (its fault) and number (chapter 2). Walks of lex.reader.number (a 0 ahead) and sign (chapter 2). The walk of lex.reader.sign, one byte (chapter 2). The walk of lex.reader.token (chapter 2), and what it answers as a plain function. lex.Tokens as a plain function, and its walk (chapter 2). The walk of lex.Tokens (chapter 2). -/
import Derived.Test.YtgbeliajhccndaaProg
import Derived.Below
import Derived.Deep.Draws
import Derived.Deep.AppendLies
import Derived.OwnWalk
import Derived.Laws.BytesArg
import Derived.Laws.MakeOwn
import Derived.Laws.OwnMore
import Derived.Deep.OwnRows
import Derived.Tactics
import Derived.Lib.ConvBytes
import Derived.Laws.Slices
import Derived.WalkKit
import Derived.KernelRfl
import Derived.RowKit3
import Derived.Deep.LoopGhost
import Derived.Deep.QuietTactic
import Derived.BigQuiet
import Derived.WideLaws
import Derived.Deep.DeepCutAuto
import Derived.Deep.RegionHeld3
import Derived.Laws.Rows
import Derived.Lib.Hide
import Derived.Outline
import Derived.Test.YtgbeliajhccndaaWWords
import Derived.Test.YtgbeliajhccndaaWLast
import Derived.Test.YtgbeliajhccndaaWMore
import Derived.Deep.RegionWith
set_option linter.unusedVariables false
set_option linter.unusedSimpArgs false
namespace Go.Proofs.Ytgbeliajhccndaa.Lex
open Go.RowKit Go.Proofs.YtgbeliajhccndaaW.PrintWords Go.Proofs.YtgbeliajhccndaaW.PrintLast Go.Proofs.YtgbeliajhccndaaW.PrintMore

theorem ret_int {k : IntKind} {a b : Int} (h : a = b) : Ending.returned (.int k a) = .returned (.int k b) := by rw [h]

def cls (c : Int) : Int :=
  if c = 95 ∨ (97 ≤ c ∧ c ≤ 122) ∨ (65 ≤ c ∧ c ≤ 90) then 3
  else if 48 ≤ c ∧ c ≤ 57 then 2
  else if c = 9 ∨ c = 10 ∨ c = 13 ∨ c = 32 then 1
  else if 32 < c ∧ c < 127 then 4 else 0

set_option maxHeartbeats 1000000 in
theorem class_any (c : Int) (h0 : 0 ≤ c) (h1 : c ≤ 255) (w : World) :
    Calls Try.prog 88 #[.int .u8 c] w fun e w' => e = .returned (.int .i64 (cls c)) ∧ w = w' := by
  go_enter Try.func88, Try.ntmps88
  go_wp2
  all_goals
    go_ret
    refine ⟨ret_int ?_, rfl⟩
    simp only [beq_iff_eq, beq_eq_false_iff_ne, ne_eq] at *
    unfold cls
    first
    | (rw [if_pos (by omega)]; done)
    | (rw [if_neg (by omega), if_pos (by omega)]; done)
    | (rw [if_neg (by omega), if_neg (by omega), if_pos (by omega)]; done)
    | (rw [if_neg (by omega), if_neg (by omega), if_neg (by omega), if_pos (by omega)]; done)
    | (rw [if_neg (by omega), if_neg (by omega), if_neg (by omega), if_neg (by omega)]; done)

theorem info5 : (Try.prog.info? 5).map (fun i => (i.zero, i.size, i.bytes)) = some (some (.int .u8 0), 1, 1) := by kernel_rfl
theorem info5s : ∃ i, Try.prog.info? 5 = some i ∧ i.size = 1 := by
  obtain ⟨i, h, e⟩ := Option.map_eq_some_iff.1 info5
  simp only [Prod.mk.injEq] at e
  exact ⟨i, h, e.2.1⟩

set_option maxHeartbeats 1000000 in
theorem rest_any (B : Nat) (A : Option Addr) (n c p : Nat) (w : World) (h0 : w.cell? ⟨B, 0, none⟩ = some (.slice A n c)) (h1 : w.cell? ⟨B, 1, none⟩ = some (.int .i64 (p : Int))) (hp : p ≤ n) :
    Calls Try.prog 89 #[.pointer (some ⟨B, 0, none⟩)] w fun e w' => ∃ A' : Option Addr, e = .returned (.slice A' (n - p) (c - p)) ∧
      (∀ (w : World) (k : IntKind) (xs : List Int), n ≤ c → ReadsInt w k A n xs → ReadsInt w k A' (n - p) (xs.drop p)) ∧ ∃ nq, w' = w.drewN nq := by
  obtain ⟨i5, hi5, hs5⟩ := info5s
  obtain ⟨A', hcut, hrd⟩ := print_cut (P := Try.prog) 52 5 .i64 Try.underlying52 hi5 hs5 A n c p hp
  have HRD := Lib.hid hrd
  clear hrd
  go_enter Try.func89, Try.ntmps89
  go_wp2
  go_quiet (fail)
  go_wp2
  go_ret
  exact ⟨A', rfl, HRD.out, nq, rfl⟩
end Go.Proofs.Ytgbeliajhccndaa.Lex
set_option linter.unusedVariables false
set_option linter.unusedSimpArgs false
namespace Go.Proofs.Ytgbeliajhccndaa.Lex
open Go.RowKit Go.Proofs.YtgbeliajhccndaaW.PrintWords Go.Proofs.YtgbeliajhccndaaW.PrintLast Go.Proofs.YtgbeliajhccndaaW.PrintMore

def strOk (b : Bool) (c : Int) : Bool := (cls c == 3 && b) || cls c == 2
def strL (b : Bool) (l : List Int) : Nat := (l.takeWhile (strOk b)).length
theorem strL_cons (b : Bool) (c : Int) (l : List Int) : strL b (c :: l) = if strOk b c then strL b l + 1 else 0 := by
  unfold strL
  rw [List.takeWhile_cons]
  split <;> simp
theorem drop_rd (l : List Int) (k : Nat) (h : k < l.length) : l.drop k = rd l k :: l.drop (k + 1) := by
  rw [List.drop_eq_getElem_cons h]
  simp [rd, List.getD_eq_getElem?_getD, List.getElem?_eq_getElem h]
theorem strL_step (b : Bool) (l : List Int) (k : Nat) (h : k < l.length) : strL b (l.drop k) = if strOk b (rd l k) then strL b (l.drop (k + 1)) + 1 else 0 := by
  rw [drop_rd l k h, strL_cons]
theorem strL_end (b : Bool) (l : List Int) (k : Nat) (h : l.length ≤ k) : strL b (l.drop k) = 0 := by
  rw [List.drop_eq_nil_of_le h]; rfl
theorem cls_range (c : Int) : 0 ≤ cls c ∧ cls c ≤ 4 := by
  unfold cls
  split
  · omega
  · split
    · omega
    · split
      · omega
      · split <;> omega

def byteRange (l : List Int) : Prop := ∀ i : Int, 0 ≤ rd l i ∧ rd l i ≤ 255
theorem byteRange.drop {l : List Int} (h : byteRange l) (k : Nat) : byteRange (l.drop k) := by
  intro i
  have e : rd (l.drop k) i = rd l ((k + i.toNat : Nat) : Int) := by
    unfold rd
    rw [Int.toNat_natCast]
    simp [List.getD_eq_getElem?_getD, List.getElem?_drop]
  rw [e]
  exact h _
theorem byteRange.take {l : List Int} (h : byteRange l) (k : Nat) : byteRange (l.take k) := by
  intro i
  by_cases hi : i.toNat < k
  · have e : rd (l.take k) i = rd l i := by simp [rd, List.getD_eq_getElem?_getD, List.getElem?_take, hi]
    rw [e]; exact h _
  · have e : rd (l.take k) i = 0 := by simp [rd, List.getD_eq_getElem?_getD, List.getElem?_take, hi]
    rw [e]; omega

theorem str_stop {b : Bool} {l xs : List Int} {p k : Nat} {cv : Int} (hxs : l.drop p = xs) (hk : strL b xs = k + strL b (xs.drop k)) (hlt : k < xs.length) (hcv : rd xs k = cv) (hs : strOk b cv = false) : (k : Int) = strL b (l.drop p) := by
  rw [hxs, hk, strL_step b xs k hlt, hcv, hs]
  simp
theorem str_go {b : Bool} {xs : List Int} {k : Nat} {cv : Int} (hk : strL b xs = k + strL b (xs.drop k)) (hlt : k < xs.length) (hcv : rd xs k = cv) (hs : strOk b cv = true) : strL b xs = (k + 1) + strL b (xs.drop (k + 1)) := by
  rw [hk, strL_step b xs k hlt, hcv, hs]
  simp; omega
theorem str_end {b : Bool} {l xs : List Int} {p k : Nat} (hxs : l.drop p = xs) (hk : strL b xs = k + strL b (xs.drop k)) (hge : xs.length ≤ k) : (k : Int) = strL b (l.drop p) := by
  rw [hxs, hk, strL_end b xs k hge]
  simp

set_option maxHeartbeats 1000000 in
theorem stretch_any (B : Nat) (b : Bool) (A : Option Addr) (n c p : Nat) (l : List Int) (w : World) (h0 : w.cell? ⟨B, 0, none⟩ = some (.slice A n c)) (h1 : w.cell? ⟨B, 1, none⟩ = some (.int .i64 (p : Int))) (hp : p ≤ n)
    (hnc : n ≤ c) (hr : ReadsInt w .u8 A n l) (hb : byteRange l) :
    Calls Try.prog 93 #[.pointer (some ⟨B, 0, none⟩), .bool b] w fun e w' => e = .returned (.int .i64 (strL b (l.drop p))) ∧ ∃ nq, w' = w.drewN nq := by
  have hb' := hb.drop p
  have HR := Lib.hid hr
  clear hr hb
  go_enter Try.func93, Try.ntmps93
  go_wp2
  go_step3
  go_wp2
  go_step3
  go_wp2_with (go_at_call 89; refine (rest_any B A n c p _ h0 h1 hp).mono ?_; rintro e w' ⟨A', rfl, HRD, nq, rfl⟩)
  have hx := HRD w .u8 l hnc HR.out
  clear HRD h0 h1
  generalize hxs : l.drop p = xs at *
  generalize hm : n - p = m at *
  have hmb := hx.2.1
  have hlen := hx.1
  have HX := Lib.hid hx
  have HM := Lib.hid hm
  have HXS := Lib.hid hxs
  have HLEN := Lib.hid hlen
  clear hx hm hxs hlen HR
  go_loop [5, 11] (fun t i => ∃ k : Nat, k ≤ m ∧ i = .int .i64 k ∧ t = .int .i64 k ∧ Hid (strL b xs = k + strL b (xs.drop k))) (fun _ i => m - (intOf i).toNat)
  case atStart => exact ⟨0, by omega, rfl, rfl, Lib.hid (by simp)⟩
  case round =>
    obtain ⟨k, hk, rfl, rfl, HK⟩ := hrel
    by_cases hlt : k < m
    · obtain ⟨ad, hA, hcell⟩ := HX.out.at_ (k : Int) (by omega) (by omega)
      obtain rfl := hA
      rw [Int.toNat_natCast] at hcell
      have hbk := hb' k
      generalize hcv : rd xs k = cv at *
      have HCV := Lib.hid hcv
      clear hcv
      cases b
      all_goals
        go_wp2_with (go_at_call 88; refine (class_any _ hbk.1 hbk.2 _).mono ?_; rintro e w' ⟨rfl, rfl⟩)
      · rw [Exit.noGoto_ret]
        go_ret
        exact ⟨ret_int (str_stop HXS.out HK.out (by rw [HLEN.out]; exact hlt) HCV.out (by simp [strOk]; simp_all)), nq, rfl⟩
      · go_round
        case rel => exact ⟨k + 1, by omega, by go_num, by go_num, Lib.hid (str_go HK.out (by rw [HLEN.out]; exact hlt) HCV.out (by simp [strOk]; simp_all))⟩
        case measure => simp [intOf]; omega
      · rw [Exit.noGoto_ret]
        go_ret
        exact ⟨ret_int (str_stop HXS.out HK.out (by rw [HLEN.out]; exact hlt) HCV.out (by simp [strOk]; simp_all)), nq, rfl⟩
      · go_round
        case rel => exact ⟨k + 1, by omega, by go_num, by go_num, Lib.hid (str_go HK.out (by rw [HLEN.out]; exact hlt) HCV.out (by simp [strOk]; simp_all))⟩
        case measure => simp [intOf]; omega
      · go_round
        case rel => exact ⟨k + 1, by omega, by go_num, by go_num, Lib.hid (str_go HK.out (by rw [HLEN.out]; exact hlt) HCV.out (by simp [strOk]; simp_all))⟩
        case measure => simp [intOf]; omega
      · rw [Exit.noGoto_ret]
        go_ret
        exact ⟨ret_int (str_stop HXS.out HK.out (by rw [HLEN.out]; exact hlt) HCV.out (by simp [strOk]; simp_all)), nq, rfl⟩
    · go_wp2
      go_ret
      exact ⟨ret_int (str_end HXS.out HK.out (by rw [HLEN.out]; omega)), nq, rfl⟩
end Go.Proofs.Ytgbeliajhccndaa.Lex
set_option linter.unusedVariables false
set_option linter.unusedSimpArgs false
namespace Go.Proofs.Ytgbeliajhccndaa.Lex
open Go.RowKit Go.Proofs.YtgbeliajhccndaaW.PrintWords Go.Proofs.YtgbeliajhccndaaW.PrintLast Go.Proofs.YtgbeliajhccndaaW.PrintMore

def RS (w : World) (B : Nat) (A : Option Addr) (n c p : Nat) : Prop := w.heap[B]? = some (.cells #[.slice A n c, .int .i64 (p : Int)] 110 (0, 0))
section
variable {w w' : World} {B : Nat} {A : Option Addr} {n c p : Nat}
theorem RS.c0 (h : RS w B A n c p) : w.cell? ⟨B, 0, none⟩ = some (.slice A n c) := by
  unfold RS at h; simp [World.cell?, h]
theorem RS.c1 (h : RS w B A n c p) : w.cell? ⟨B, 1, none⟩ = some (.int .i64 (p : Int)) := by
  unfold RS at h; simp [World.cell?, h]
theorem RS.f1 (h : RS w B A n c p) : w.frozen? ⟨B, 1, none⟩ = false := by
  unfold RS at h; simp [World.frozen?, h]
theorem RS.set (h : RS w B A n c p) (q : Nat) : RS (w.setCell ⟨B, 1, none⟩ (.int .i64 (q : Int))) B A n c q := by
  unfold RS at h ⊢
  have hl : B < w.heap.size := (Array.getElem?_eq_some_iff.1 h).1
  have he : w.heap[B] = .cells #[.slice A n c, .int .i64 (p : Int)] 110 (0, 0) := (Array.getElem?_eq_some_iff.1 h).2
  simp [World.setCell, Array.getElem_modify, hl, he]
theorem RS.drewN (h : RS w B A n c p) (k : Nat) : RS (w.drewN k) B A n c p := h
theorem RS.lt (h : RS w B A n c p) : B < w.heap.size := (Array.getElem?_eq_some_iff.1 h).1
theorem RS.grown (h : RS w B A n c p) {row : Option Nat} (hg : w.grownBy w' row) (hne : some B ≠ row) : RS w' B A n c p := (hg.block B h.lt hne).trans h
theorem grown_set (w : World) (B j : Nat) (v : Value) : w.grownBy (w.setCell ⟨B, j, none⟩ v) (some B) :=
  ⟨rfl, rfl, rfl, by simp [World.setCell], fun k hk hne => Below.heap_setCell w ⟨B, j, none⟩ v k (fun e => hne (by rw [e]))⟩
theorem grown_drewN (w : World) (k : Nat) (row : Option Nat) : w.grownBy (w.drewN k) row := ⟨rfl, rfl, rfl, Nat.le_refl _, fun _ _ _ => rfl⟩
def Far (A : Option Addr) (B n : Nat) : Prop := 0 < n → ∀ ad, A = some ad → ad.block ≠ B
theorem reads_grown {k : IntKind} {xs : List Int} (h : ReadsInt w k A n xs) (hg : w.grownBy w' (some B)) (hf : Far A B n) : ReadsInt w' k A n xs := by
  refine ⟨h.1, h.2.1, fun hn => ?_⟩
  obtain ⟨ad, e, hc⟩ := h.2.2 hn
  refine ⟨ad, e, fun j hj => hg.cell (hc j hj) ?_⟩
  have hb := hf hn ad e
  have : (ad.add j).block = ad.block := by unfold Addr.add; split <;> rfl
  rw [this]
  exact fun he => hb (Option.some.inj he)
end

def skipL : Bool → List Int → Nat × Bool
  | _, [] => (0, true)
  | true, c :: r => if cls c = 0 then (0, false) else ((skipL (c != 10) r).1 + 1, (skipL (c != 10) r).2)
  | false, c :: r => if cls c = 1 then ((skipL false r).1 + 1, (skipL false r).2)
    else if c = 47 ∧ r ≠ [] ∧ rd r 0 = 47 then ((skipL true r).1 + 1, (skipL true r).2) else (0, true)
/-- From place q on skip goes on to place t, and answers ok. -/
def SkipTo (l : List Int) (cm : Bool) (q t : Nat) (ok : Bool) : Prop := q + (skipL cm (l.drop q)).1 = t ∧ (skipL cm (l.drop q)).2 = ok
theorem skip_end {l : List Int} {cm ok : Bool} {q t : Nat} (h : SkipTo l cm q t ok) (hq : l.length ≤ q) : t = q ∧ ok = true := by
  unfold SkipTo at h
  rw [List.drop_eq_nil_of_le hq] at h
  have e : skipL cm [] = (0, true) := by cases cm <;> rfl
  rw [e] at h
  exact ⟨h.1.symm, h.2.symm⟩
theorem skip_bad {l : List Int} {ok : Bool} {q t : Nat} {c : Int} (h : SkipTo l true q t ok) (hq : q < l.length) (hc : rd l q = c) (h0 : cls c = 0) : t = q ∧ ok = false := by
  unfold SkipTo at h
  rw [drop_rd l q hq, hc, skipL, if_pos h0] at h
  exact ⟨h.1.symm, h.2.symm⟩
theorem skip_com {l : List Int} {ok : Bool} {q t : Nat} {c : Int} (h : SkipTo l true q t ok) (hq : q < l.length) (hc : rd l q = c) (h0 : cls c ≠ 0) : SkipTo l (c != 10) (q + 1) t ok := by
  unfold SkipTo at h ⊢
  rw [drop_rd l q hq, hc, skipL, if_neg h0] at h
  exact ⟨by rw [← h.1]; omega, h.2⟩
theorem skip_blank {l : List Int} {ok : Bool} {q t : Nat} {c : Int} (h : SkipTo l false q t ok) (hq : q < l.length) (hc : rd l q = c) (h0 : cls c = 1) : SkipTo l false (q + 1) t ok := by
  unfold SkipTo at h ⊢
  rw [drop_rd l q hq, hc, skipL, if_pos h0] at h
  exact ⟨by rw [← h.1]; omega, h.2⟩
theorem rd_drop0 (l : List Int) (q : Nat) : rd (l.drop q) 0 = rd l q := by
  unfold rd; simp [List.getD_eq_getElem?_getD, List.getElem?_drop]
theorem skip_open {l : List Int} {ok : Bool} {q t : Nat} {c : Int} (h : SkipTo l false q t ok) (hq : q + 1 < l.length) (hc : rd l q = c) (h0 : cls c ≠ 1) (h1 : c = 47) (h2 : rd l (q + 1 : Nat) = 47) : SkipTo l true (q + 1) t ok := by
  unfold SkipTo at h ⊢
  have hne : l.drop (q + 1) ≠ [] := by simp; omega
  rw [drop_rd l q (by omega), hc, skipL, if_neg h0, if_pos ⟨h1, hne, by rw [rd_drop0]; exact h2⟩] at h
  exact ⟨by rw [← h.1]; omega, h.2⟩
theorem skip_stop {l : List Int} {ok : Bool} {q t : Nat} {c : Int} (h : SkipTo l false q t ok) (hq : q < l.length) (hc : rd l q = c) (h0 : cls c ≠ 1) (h1 : ¬ (c = 47 ∧ q + 1 < l.length ∧ rd l (q + 1 : Nat) = 47)) : t = q ∧ ok = true := by
  unfold SkipTo at h
  rw [drop_rd l q hq, hc, skipL, if_neg h0, if_neg (by
    rintro ⟨a, b, d⟩
    refine h1 ⟨a, ?_, by rw [rd_drop0] at d; exact d⟩
    simp at b; omega)] at h
  exact ⟨h.1.symm, h.2.symm⟩
theorem skipL_le (cm : Bool) (l : List Int) : (skipL cm l).1 ≤ l.length := by
  induction l generalizing cm with
  | nil => cases cm <;> simp [skipL]
  | cons c r ih =>
    cases cm
    · simp only [skipL]
      split
      · have := ih false; simp; omega
      · split
        · have := ih true; simp; omega
        · simp
    · simp only [skipL]
      split
      · simp
      · have := ih (c != 10); simp; omega

theorem next_cell {A A2 : Option Addr} {n c q : Nat} {l : List Int} {dv : Int} {wr : World} (h : ∀ (w : World) (k : IntKind) (xs : List Int), n ≤ c → ReadsInt w k A n xs → ReadsInt w k A2 (n - q) (xs.drop q))
    (hnc : n ≤ c) (hr : ReadsInt wr .u8 A n l) (hd : rd l (q + 1 : Nat) = dv) (hq : q + 1 < n) : ∃ ad2, A2 = some ad2 ∧ wr.cell? ⟨ad2.block, ad2.off + 1, none⟩ = some (.int .u8 dv) := by
  obtain ⟨ad2, h1, h2⟩ := (h wr .u8 l hnc hr).2.2 (by omega)
  refine ⟨ad2, h1, ?_⟩
  have e : (⟨ad2.block, ad2.off + 1, none⟩ : Addr) = ad2.add 1 := by unfold Addr.add; simp
  rw [e, h2 1 (by omega), ← hd]
  simp [rd, List.getD_eq_getElem?_getD, List.getElem?_drop]

set_option maxHeartbeats 2000000 in
theorem skip_any (B : Nat) (A : Option Addr) (n c p t : Nat) (ok : Bool) (l : List Int) (w : World) (hs : RS w B A n c p) (hp : p ≤ n) (hnc : n ≤ c) (hr : ReadsInt w .u8 A n l) (hf : Far A B n) (hb : byteRange l) (hsk : SkipTo l false p t ok) :
    Calls Try.prog 82 #[.pointer (some ⟨B, 0, none⟩)] w fun e w' => e = .returned (.bool ok) ∧ RS w' B A n c t ∧ w.grownBy w' (some B) := by
  have hn := hr.2.1
  have HR := Lib.hid hr
  have HS := Lib.hid hs
  have HSK := Lib.hid hsk
  have HB := Lib.hid hb
  have HF := Lib.hid hf
  have hlen := Lib.hid hr.1
  clear hr hs hsk hb hf
  go_enter Try.func82, Try.ntmps82
  go_wp2
  go_step3
  go_wp2
  go_step3
  go_wp2
  go_loopg [3] (n - p) (fun g cm wr => ∃ (b : Bool) (q : Nat), cm = .bool b ∧ q ≤ n ∧ g + q = n ∧ Hid (RS wr B A n c q) ∧ Hid (w.grownBy wr (some B)) ∧ Hid (SkipTo l b q t ok))
  case atStart => exact ⟨false, p, rfl, hp, by omega, HS, Lib.hid ⟨rfl, rfl, rfl, Nat.le_refl _, fun _ _ _ => rfl⟩, HSK⟩
  case round =>
    obtain ⟨b, q, rfl, hq, hg, HS1, HG1, HSK1⟩ := hrel
    have c0 := HS1.out.c0
    have c1 := HS1.out.c1
    have f1 := HS1.out.f1
    have HR1 := Lib.hid (reads_grown HR.out HG1.out HF.out)
    by_cases hlt : q < n
    · obtain ⟨ad, hA, hcell⟩ := HR1.out.at_ (q : Int) (by omega) (by omega)
      obtain rfl := hA
      rw [Int.toNat_natCast] at hcell
      have hbk := HB.out q
      generalize hcv : rd l q = cv at *
      have HCV := Lib.hid hcv
      clear hcv
      cases b
      · by_cases h1 : cls cv = 1
        · have HN := Lib.hid (skip_blank HSK1.out (by rw [hlen.out]; exact hlt) HCV.out h1)
          clear HSK1
          go_wp2
          go_quiet (fail)
          go_wp2
          go_quiet (fail)
          go_wp2_with (go_at_call 88; refine (class_any _ hbk.1 hbk.2 _).mono ?_; rintro e w' ⟨rfl, rfl⟩)
          go_roundg (gk - 1)
          case measure => omega
          case rel => exact ⟨false, q + 1, by simp, by omega, by omega, Lib.hid ((HS1.out.drewN _).set (q + 1)), Lib.hid ((HG1.out.trans (grown_drewN _ _ _)).trans (grown_set _ _ _ _)), HN⟩
        · by_cases h2 : cv = 47
          · subst h2
            by_cases h3 : q + 1 < n
            · generalize hdv : rd l (q + 1 : Nat) = dv at *
              have HDV := Lib.hid hdv
              clear hdv
              by_cases h4 : dv = 47
              · subst h4
                have HN := Lib.hid (skip_open HSK1.out (by rw [hlen.out]; exact h3) HCV.out h1 rfl HDV.out)
                clear HSK1
                go_wp2
                go_quiet (fail)
                go_wp2
                go_quiet (fail)
                go_wp2_with (first | (go_at_call 88; refine (class_any _ hbk.1 hbk.2 _).mono ?_; rintro e w' ⟨rfl, rfl⟩) | (go_at_call 89; refine (rest_any B (some ad) n c q _ (by exact c0) (by exact c1) hq).mono ?_; rintro e w' ⟨A2, rfl, HRD2, nq2, rfl⟩; obtain ⟨ad2, hA2, hcell2⟩ := next_cell HRD2 hnc HR1.out HDV.out (by omega); obtain rfl := hA2; clear HRD2))
                go_roundg (gk - 1)
                case measure => omega
                case rel => exact ⟨true, q + 1, rfl, by omega, by omega, Lib.hid ((HS1.out.drewN _).set (q + 1)), Lib.hid ((HG1.out.trans (grown_drewN _ _ _)).trans (grown_set _ _ _ _)), HN⟩
              · obtain ⟨ht, ho⟩ := skip_stop HSK1.out (by rw [hlen.out]; exact hlt) HCV.out h1 (fun h => h4 (HDV.out.symm.trans h.2.2))
                go_wp2
                go_quiet (fail)
                go_wp2
                go_quiet (fail)
                go_wp2_with (first | (go_at_call 88; refine (class_any _ hbk.1 hbk.2 _).mono ?_; rintro e w' ⟨rfl, rfl⟩) | (go_at_call 89; refine (rest_any B (some ad) n c q _ (by exact c0) (by exact c1) hq).mono ?_; rintro e w' ⟨A2, rfl, HRD2, nq2, rfl⟩; obtain ⟨ad2, hA2, hcell2⟩ := next_cell HRD2 hnc HR1.out HDV.out (by omega); obtain rfl := hA2; clear HRD2))
                try rw [Exit.noGoto_ret]
                go_ret
                exact ⟨by rw [ho]; rfl, by rw [ht]; exact HS1.out.drewN _, HG1.out.trans (grown_drewN _ _ _)⟩
            · obtain ⟨ht, ho⟩ := skip_stop HSK1.out (by rw [hlen.out]; exact hlt) HCV.out h1 (fun h => h3 (by have := hlen.out; omega))
              go_wp2
              go_quiet (fail)
              go_wp2
              go_quiet (fail)
              go_wp2_with (first | (go_at_call 88; refine (class_any _ hbk.1 hbk.2 _).mono ?_; rintro e w' ⟨rfl, rfl⟩) | (go_at_call 89; refine (rest_any B (some ad) n c q _ (by exact c0) (by exact c1) hq).mono ?_; rintro e w' ⟨A2, rfl, HRD2, nq2, rfl⟩; clear HRD2))
              try rw [Exit.noGoto_ret]
              go_ret
              exact ⟨by rw [ho]; rfl, by rw [ht]; exact HS1.out.drewN _, HG1.out.trans (grown_drewN _ _ _)⟩
          · obtain ⟨ht, ho⟩ := skip_stop HSK1.out (by rw [hlen.out]; exact hlt) HCV.out h1 (fun h => h2 h.1)
            go_wp2
            go_quiet (fail)
            go_wp2
            go_quiet (fail)
            go_wp2_with (go_at_call 88; refine (class_any _ hbk.1 hbk.2 _).mono ?_; rintro e w' ⟨rfl, rfl⟩)
            try rw [Exit.noGoto_ret]
            go_ret
            exact ⟨by rw [ho]; rfl, by rw [ht]; exact HS1.out.drewN _, HG1.out.trans (grown_drewN _ _ _)⟩
      · by_cases h1 : cls cv = 0
        · obtain ⟨ht, ho⟩ := skip_bad HSK1.out (by rw [hlen.out]; exact hlt) HCV.out h1
          go_wp2
          go_quiet (fail)
          go_wp2
          go_quiet (fail)
          go_wp2_with (go_at_call 88; refine (class_any _ hbk.1 hbk.2 _).mono ?_; rintro e w' ⟨rfl, rfl⟩)
          try rw [Exit.noGoto_ret]
          go_ret
          exact ⟨by rw [ho]; rfl, by rw [ht]; exact HS1.out.drewN _, HG1.out.trans (grown_drewN _ _ _)⟩
        · have HN := Lib.hid (skip_com HSK1.out (by rw [hlen.out]; exact hlt) HCV.out h1)
          clear HSK1
          go_wp2
          go_quiet (fail)
          go_wp2
          go_quiet (fail)
          go_wp2_with (go_at_call 88; refine (class_any _ hbk.1 hbk.2 _).mono ?_; rintro e w' ⟨rfl, rfl⟩)
          go_roundg (gk - 1)
          case measure => omega
          case rel => exact ⟨_, q + 1, rfl, by omega, by omega, Lib.hid ((HS1.out.drewN _).set (q + 1)), Lib.hid ((HG1.out.trans (grown_drewN _ _ _)).trans (grown_set _ _ _ _)), HN⟩
    · obtain ⟨ht, ho⟩ := skip_end HSK1.out (by rw [hlen.out]; omega)
      go_wp2
      go_quiet (fail)
      go_wp2
      try rw [Exit.noGoto_ret]
      go_ret
      exact ⟨by rw [ho]; rfl, by rw [ht]; exact HS1.out.drewN _, HG1.out.trans (grown_drewN _ _ _)⟩
end Go.Proofs.Ytgbeliajhccndaa.Lex
set_option linter.unusedVariables false
set_option linter.unusedSimpArgs false
namespace Go.Proofs.Ytgbeliajhccndaa.Lex
open Go.RowKit Go.Proofs.YtgbeliajhccndaaW.PrintWords Go.Proofs.YtgbeliajhccndaaW.PrintLast Go.Proofs.YtgbeliajhccndaaW.PrintMore

def twoL : List (List UInt8 × Int) := [([61, 61], 49), ([33, 61], 50), ([60, 61], 52), ([62, 61], 54), ([38, 94], 63), ([60, 60], 64), ([62, 62], 65), ([38, 38], 66), ([124, 124], 67)]
def twoFrom (s : List UInt8) : List (List UInt8 × Int) → Int
  | [] => 0
  | (x, k) :: r => if s = x then k else twoFrom s r
def twoK (s : ByteArray) : Int := twoFrom s.data.toList twoL
set_option maxHeartbeats 1000000 in
theorem two_any (s : ByteArray) (w : World) :
    Calls Try.prog 95 #[.string s] w fun e w' => e = .returned (.int .i64 (twoK s)) ∧ w = w' := by
  go_enter Try.func95, Try.ntmps95
  go_wp2
  all_goals
    go_ret
    refine ⟨ret_int ?_, rfl⟩
    simp only [beq_iff_eq, beq_eq_false_iff_ne, ne_eq, ByteArray.toList_eq] at *
    simp only [twoK, twoL, twoFrom]
    simp only [*, if_true, if_false, reduceCtorEq, List.cons.injEq, not_false_eq_true, not_true_eq_false]
    try rfl
theorem run_index_agg {P : Program} {w : World} (t e : TypeId) (n : Nat) (cs : Array Value) (k : IntKind) (i : Nat) (v : Value) {d : TypeDesc} (h : P.underlying t = some (.array n e)) (he : P.underlying e = some d) (hd : (match d with | .struct _ | .array _ _ => true | _ => false) = false)
    (hi : (P.info? e).map (·.size) = some 1) (hlt : i < n) (hv : cs[i]? = some v) :
    (Instr.index t (.agg cs) (.int k (i : Int))).run P w = .ok v w := by
  obtain ⟨i0, hi0, hs0⟩ := Option.map_eq_some_iff.1 hi
  have h1 : (0 : Int) ≤ (i : Int) ∧ (i : Int) < (n : Int) := by omega
  have h3 : (0 : Int) ≤ (i : Int) := by omega
  have hA : (isAgg e).run P w = .ok false w := by
    simp [isAgg, run_underlying he, go_sem]
    cases d <;> simp_all
  simp [Instr.index, run_underlying h, asIntOf, hlt, h3, part, sizeOf, typeInfo, hi0, hs0, hA, hv, go_sem]
end Go.Proofs.Ytgbeliajhccndaa.Lex
set_option linter.unusedVariables false
set_option linter.unusedSimpArgs false
namespace Go.Proofs.Ytgbeliajhccndaa.Lex
open Go.RowKit Go.Proofs.YtgbeliajhccndaaW.PrintWords Go.Proofs.YtgbeliajhccndaaW.PrintLast Go.Proofs.YtgbeliajhccndaaW.PrintMore

def wordsL : List ByteArray := [⟨#[102, 117, 110, 99]⟩, ⟨#[118, 97, 114]⟩, ⟨#[105, 102]⟩, ⟨#[101, 108, 115, 101]⟩, ⟨#[102, 111, 114]⟩, ⟨#[114, 101, 116, 117, 114, 110]⟩, ⟨#[98, 114, 101, 97, 107]⟩, ⟨#[99, 111, 110, 116, 105, 110, 117, 101]⟩, ⟨#[112, 114, 105, 110, 116]⟩, ⟨#[112, 97, 110, 105, 99]⟩, ⟨#[105, 110, 112, 117, 116]⟩, ⟨#[108, 101, 110]⟩, ⟨#[109, 97, 107, 101]⟩, ⟨#[105, 110, 116]⟩, ⟨#[98, 111, 111, 108]⟩, ⟨#[116, 114, 117, 101]⟩, ⟨#[102, 97, 108, 115, 101]⟩, ⟨#[110, 105, 108]⟩]
def wd (k : Nat) : ByteArray := wordsL.getD k ⟨#[]⟩
def wordFrom (s : ByteArray) : List ByteArray → Nat → Int
  | [], _ => 1
  | x :: r, k => if s.data.toList = x.data.toList then 10 + k else wordFrom s r (k + 1)
def wordK (s : ByteArray) : Int := wordFrom s wordsL 0
theorem word_index (k : Nat) (hk : k < 18) : ∀ w : World, (Instr.index 129 (.agg (wordsL.map Value.string).toArray) (.int .i64 (k : Int))).run Try.prog w = .ok (.string (wd k)) w := by
  intro w
  refine run_index_agg 129 9 18 _ .i64 k _ Try.underlying129 Try.underlying9 rfl (by kernel_rfl) hk ?_
  have hl : k < wordsL.length := by simpa [wordsL] using hk
  simp [wd, List.getD_eq_getElem?_getD, List.getElem?_eq_getElem hl]
theorem word_miss {s : ByteArray} {k : Nat} (hk : k < 18) (h : wordK s = wordFrom s (wordsL.drop k) k) (hne : (s.toList == (wd k).toList) = false) : wordK s = wordFrom s (wordsL.drop (k + 1)) (k + 1) := by
  have hd : wordsL.drop k = wd k :: wordsL.drop (k + 1) := by
    rw [List.drop_eq_getElem_cons (by simpa [wordsL] using hk)]
    simp [wd, List.getD_eq_getElem?_getD, List.getElem?_eq_getElem (show k < wordsL.length by simpa [wordsL] using hk)]
  rw [h, hd, wordFrom, if_neg (by simpa [ByteArray.toList_eq] using hne)]
theorem word_hit {s : ByteArray} {k : Nat} (hk : k < 18) (h : wordK s = wordFrom s (wordsL.drop k) k) (he : (s.toList == (wd k).toList) = true) : 10 + (k : Int) = wordK s := by
  have hd : wordsL.drop k = wd k :: wordsL.drop (k + 1) := by
    rw [List.drop_eq_getElem_cons (by simpa [wordsL] using hk)]
    simp [wd, List.getD_eq_getElem?_getD, List.getElem?_eq_getElem (show k < wordsL.length by simpa [wordsL] using hk)]
  rw [h, hd, wordFrom, if_pos (by simpa [ByteArray.toList_eq] using he)]

def wordsV : Array Value := (wordsL.map Value.string).toArray
theorem wordsV_size : wordsV.size = 18 := rfl
theorem setRow_alloc (w : World) (old V : Array Value) (t : TypeId) (fr : Nat × Nat) : (w.alloc (.cells old t fr)).setRow w.heap.size V = w.alloc (.cells V t fr) := by
  unfold World.setRow World.alloc
  congr 1
  apply Array.ext
  · simp
  · intro i h1 h2
    simp at h1
    rw [Array.getElem_modify]
    split
    · rename_i e
      subst e
      simp
    · rename_i e
      rw [Array.getElem_push, Array.getElem_push]
      split
      · rfl
      · exact absurd (by omega) e
theorem store_alloc {P : Program} (w : World) (old V : Array Value) (t : TypeId) (hs : old.size = V.size) (h1 : ∀ v ∈ V.toList, v.oneCell' = true) :
    (storeCells ⟨w.heap.size, 0, none⟩ V.toList).run P (w.alloc (.cells old t (0, 0))) = .ok () (w.alloc (.cells V t (0, 0))) := by
  have h := run_storeCells_from (P := P) w.heap.size t V.toList 0 old (w.alloc (.cells old t (0, 0))) (heap_alloc_new w _) (by simp; omega) h1
  rw [h]
  simp [setRow_alloc]
theorem wpList_build_lit {P : Program} {ops : Array Oper} {rest : List Oper} {o : Oper} {a : Act} {w : World} {Q : Exit → Act → World → Prop} (hg : o.guard = none) (t : TypeId) (parts : Array (Nat × Operand)) (ho : o.op = .build t parts)
    (V : Array Value) (hV : P.built t (parts.map fun (i, x) => (i, a.eval x)).toList = some V) (h : wpList P ops Q rest (a.put o.dst (.agg V)) w) : wpList P ops Q (o :: rest) a w := by
  refine wpList_build hg t parts ho (by rw [hV]; rfl) ?_
  rw [hV]
  exact h

theorem wordsV_one : ∀ v ∈ wordsV.toList, v.oneCell' = true := by
  intro v hv
  simp [wordsV] at hv
  obtain ⟨x, _, rfl⟩ := hv
  rfl
theorem word_at (k : Nat) (hk : k < 18) : ∀ w : World, (Instr.index 129 (.agg wordsV) (.int .i64 (k : Int))).run Try.prog w = .ok (.string (wd k)) w := word_index k hk
attribute [irreducible] wordsV
set_option maxHeartbeats 1000000 in
theorem word_any (s : ByteArray) (w : World) :
    Calls Try.prog 94 #[.string s] w fun e w' => e = .returned (.int .i64 (wordK s)) ∧ Below w.heap.size w w' := by
  have hst := store_alloc (P := Try.prog) w #[.string ⟨#[]⟩, .string ⟨#[]⟩, .string ⟨#[]⟩, .string ⟨#[]⟩, .string ⟨#[]⟩, .string ⟨#[]⟩, .string ⟨#[]⟩, .string ⟨#[]⟩, .string ⟨#[]⟩, .string ⟨#[]⟩, .string ⟨#[]⟩, .string ⟨#[]⟩, .string ⟨#[]⟩, .string ⟨#[]⟩, .string ⟨#[]⟩, .string ⟨#[]⟩, .string ⟨#[]⟩, .string ⟨#[]⟩] wordsV 129 (by rw [wordsV_size]; rfl) wordsV_one
  have hsz := wordsV_size
  go_enter Try.func94, Try.ntmps94
  go_wp2_with (first | (refine wpList_build_lit rfl 129 _ rfl wordsV (by unfold wordsV; kernel_rfl) ?_) | (refine wpList_load_row rfl 129 (.tmp 3) rfl w.heap.size rfl 129 wordsV (0, 0) _ (heap_alloc_new w _) Try.underlying129 rfl (by rw [wordsV_size]; kernel_rfl) ?_))
  clear hst
  go_loop [8] (fun i => ∃ k : Nat, k ≤ 18 ∧ i = .int .i64 k ∧ Hid (wordK s = wordFrom s (wordsL.drop k) k)) (fun i => 18 - (intOf i).toNat)
  case atStart => exact ⟨0, by omega, rfl, Lib.hid (by rw [List.drop_zero]; rfl)⟩
  case round =>
    obtain ⟨k, hk, rfl, HK⟩ := hrel
    by_cases hlt : k < 18
    · have hix := word_at k hlt
      cases hq : (s.toList == (wd k).toList)
      · have HN := Lib.hid (word_miss hlt HK.out hq)
        go_wp2
        go_round
        case rel => exact ⟨k + 1, by omega, by go_num, HN⟩
        case measure => simp [intOf]; omega
      · have HN := Lib.hid (word_hit hlt HK.out hq)
        go_wp2
        go_ret
        exact ⟨ret_int HN.out, (Below.refl _ _).alloc (Nat.le_refl _) _⟩
    · obtain rfl : k = 18 := by omega
      have HN := Lib.hid HK.out
      go_wp2
      go_ret
      exact ⟨ret_int (by rw [HN.out]; rfl), (Below.refl _ _).alloc (Nat.le_refl _) _⟩

def signsL : List UInt8 := [40, 41, 123, 125, 91, 93, 44, 59, 61, 33, 60, 62, 43, 45, 42, 47, 37, 38, 124, 94]
def kindsL : List Int := [40, 41, 42, 43, 44, 45, 46, 47, 48, 68, 51, 53, 55, 56, 57, 58, 59, 60, 61, 62]
def sg (k : Nat) : Int := ((signsL.getD k 0).toNat : Int)
def kd (k : Nat) : Int := kindsL.getD k 0
def oneFrom (c : Int) : List (UInt8 × Int) → Int
  | [] => 0
  | (x, k) :: r => if (x.toNat : Int) = c then k else oneFrom c r
def oneK (c : Int) : Int := oneFrom c (signsL.zip kindsL)
theorem one_sign (k : Nat) (hk : k < 20) : ∀ w : World, (Instr.index 9 (.string ⟨#[40, 41, 123, 125, 91, 93, 44, 59, 61, 33, 60, 62, 43, 45, 42, 47, 37, 38, 124, 94]⟩) (.int .i64 (k : Int))).run Try.prog w = .ok (.int .u8 (sg k)) w := by
  intro w
  have e : (⟨#[40, 41, 123, 125, 91, 93, 44, 59, 61, 33, 60, 62, 43, 45, 42, 47, 37, 38, 124, 94]⟩ : ByteArray) = ⟨signsL.toArray⟩ := rfl
  have hl : k < signsL.length := by simpa [signsL] using hk
  have h1 : (⟨signsL.toArray⟩ : ByteArray)[k]? = some (signsL.getD k 0) := by
    have hl' : k < (⟨signsL.toArray⟩ : ByteArray).size := hl
    rw [getElem?_pos _ k hl']
    simp [List.getD_eq_getElem?_getD, List.getElem?_eq_getElem hl]
    rfl
  rw [e]
  have h0 : (0 : Int) ≤ (k : Int) := by omega
  simp [Instr.index, run_underlying Try.underlying9, asIntOf, h0, h1, sg, go_sem]
def kindsV : Array Value := (kindsL.map (Value.int .i64)).toArray
theorem kindsV_size : kindsV.size = 20 := rfl
theorem kindsV_one : ∀ v ∈ kindsV.toList, v.oneCell' = true := by
  intro v hv
  simp [kindsV] at hv
  obtain ⟨x, _, rfl⟩ := hv
  rfl
theorem kind_at (k : Nat) (hk : k < 20) : ∀ w : World, (Instr.index 130 (.agg kindsV) (.int .i64 (k : Int))).run Try.prog w = .ok (.int .i64 (kd k)) w := by
  intro w
  refine run_index_agg 130 3 20 _ .i64 k _ Try.underlying130 Try.underlying3 rfl (by kernel_rfl) hk ?_
  have hl : k < kindsL.length := by simpa [kindsL] using hk
  simp [kindsV, kd, List.getD_eq_getElem?_getD, List.getElem?_eq_getElem hl]
attribute [irreducible] kindsV
theorem one_drop {k : Nat} (hk : k < 20) : (signsL.zip kindsL).drop k = (signsL.getD k 0, kd k) :: (signsL.zip kindsL).drop (k + 1) := by
  have hl : k < (signsL.zip kindsL).length := by simpa [signsL, kindsL] using hk
  have h1 : k < signsL.length := by simpa [signsL] using hk
  have h2 : k < kindsL.length := by simpa [kindsL] using hk
  rw [List.drop_eq_getElem_cons hl, List.getElem_zip]
  simp [kd, List.getD_eq_getElem?_getD, List.getElem?_eq_getElem h1, List.getElem?_eq_getElem h2]
theorem one_miss {c : Int} {k : Nat} (hk : k < 20) (h : oneK c = oneFrom c ((signsL.zip kindsL).drop k)) (hne : (sg k == c) = false) : oneK c = oneFrom c ((signsL.zip kindsL).drop (k + 1)) := by
  rw [h, one_drop hk, oneFrom, if_neg (by simpa [sg] using hne)]
theorem one_hit {c : Int} {k : Nat} (hk : k < 20) (h : oneK c = oneFrom c ((signsL.zip kindsL).drop k)) (he : (sg k == c) = true) : kd k = oneK c := by
  rw [h, one_drop hk, oneFrom, if_pos (by simpa [sg] using he)]
set_option maxHeartbeats 1000000 in
theorem one_any (c : Int) (w : World) :
    Calls Try.prog 96 #[.int .u8 c] w fun e w' => e = .returned (.int .i64 (oneK c)) ∧ Below w.heap.size w w' := by
  have hst := store_alloc (P := Try.prog) w #[.int .i64 0, .int .i64 0, .int .i64 0, .int .i64 0, .int .i64 0, .int .i64 0, .int .i64 0, .int .i64 0, .int .i64 0, .int .i64 0, .int .i64 0, .int .i64 0, .int .i64 0, .int .i64 0, .int .i64 0, .int .i64 0, .int .i64 0, .int .i64 0, .int .i64 0, .int .i64 0] kindsV 130 (by rw [kindsV_size]; rfl) kindsV_one
  have hsz := kindsV_size
  go_enter Try.func96, Try.ntmps96
  go_wp2_with (first | (refine wpList_build_lit rfl 130 _ rfl kindsV (by unfold kindsV; kernel_rfl) ?_) | (refine wpList_load_row rfl 130 (.tmp 3) rfl w.heap.size rfl 130 kindsV (0, 0) _ (heap_alloc_new w _) Try.underlying130 rfl (by rw [kindsV_size]; kernel_rfl) ?_))
  clear hst
  go_loop [8] (fun i => ∃ k : Nat, k ≤ 20 ∧ i = .int .i64 k ∧ Hid (oneK c = oneFrom c ((signsL.zip kindsL).drop k))) (fun i => 20 - (intOf i).toNat)
  case atStart => exact ⟨0, by omega, rfl, Lib.hid (by rw [List.drop_zero]; rfl)⟩
  case round =>
    obtain ⟨k, hk, rfl, HK⟩ := hrel
    by_cases hlt : k < 20
    · have hix := kind_at k hlt
      have hsx := one_sign k hlt
      cases hq : (sg k == c)
      · have HN := Lib.hid (one_miss hlt HK.out hq)
        go_wp2
        go_round
        case rel => exact ⟨k + 1, by omega, by go_num, HN⟩
        case measure => simp [intOf]; omega
      · have HN := Lib.hid (one_hit hlt HK.out hq)
        go_wp2
        go_ret
        exact ⟨ret_int HN.out, (Below.refl _ _).alloc (Nat.le_refl _) _⟩
    · obtain rfl : k = 20 := by omega
      have HN := Lib.hid HK.out
      go_wp2
      go_ret
      exact ⟨ret_int (by rw [HN.out]; rfl), (Below.refl _ _).alloc (Nat.le_refl _) _⟩
end Go.Proofs.Ytgbeliajhccndaa.Lex
set_option linter.unusedVariables false
set_option linter.unusedSimpArgs false
namespace Go.Proofs.Ytgbeliajhccndaa.Lex
open Go.RowKit Go.Proofs.YtgbeliajhccndaaW.PrintWords Go.Proofs.YtgbeliajhccndaaW.PrintLast Go.Proofs.YtgbeliajhccndaaW.PrintMore

structure Tok where
  kind : Int
  at_ : Int
  value : Int
  name : ByteArray
def Tok.cells (x : Tok) : Array Value := #[.int .i64 x.kind, .int .i64 x.at_, .int .i64 x.value, .string x.name]
def Tok.nil : Tok := ⟨0, 0, 0, ⟨#[]⟩⟩

theorem RS.alloc {w : World} {B : Nat} {A : Option Addr} {n c p : Nat} (h : RS w B A n c p) (o : Obj) : RS (w.alloc o) B A n c p := h.grown (World.grownBy_alloc w o none) (by simp)
theorem reads_alloc {w : World} {A : Option Addr} {n : Nat} {k : IntKind} {xs : List Int} (h : ReadsInt w k A n xs) (o : Obj) : ReadsInt (w.alloc o) k A n xs :=
  h.below ((Below.refl _ _).alloc (Nat.le_refl _) o)
theorem length_tw {α : Type} (f : α → Bool) (l : List α) : (l.takeWhile f).length ≤ l.length := (List.takeWhile_prefix f).length_le
theorem strL_le (b : Bool) (l : List Int) : strL b l ≤ l.length := length_tw _ _

theorem reads_heap {w w' : World} {A : Option Addr} {n : Nat} {k : IntKind} {xs : List Int} (h : ReadsInt w k A n xs) (he : w'.heap = w.heap) : ReadsInt w' k A n xs := by
  refine ⟨h.1, h.2.1, fun hn => ?_⟩
  obtain ⟨ad, e, hc⟩ := h.2.2 hn
  refine ⟨ad, e, fun j hj => ?_⟩
  have := hc j hj
  unfold World.cell? at this ⊢
  rw [he]
  exact this
/-- 'r.rest()[:m]' and 'string(..)' of it. -/
theorem cut_string {A A2 : Option Addr} {n c p m : Nat} {l : List Int} {w : World} (h : ∀ (w : World) (k : IntKind) (xs : List Int), n ≤ c → ReadsInt w k A n xs → ReadsInt w k A2 (n - p) (xs.drop p)) (hnc : n ≤ c) (hr : ReadsInt w .u8 A n l) (hm : m ≤ n - p) :
    (∀ W : World, (Instr.slice 52 (.slice A2 (n - p) (c - p)) none (some (.int .i64 (m : Int))) none).run Try.prog W = .ok (.slice A2 m (c - p)) W) ∧
    (∀ k, (convert 52 9 (.slice A2 m (c - p))).run Try.prog (w.drewN k) = .ok (.string (strOfNums ((l.drop p).take m))) (w.drewN k)) ∧
    (∀ o k, (convert 52 9 (.slice A2 m (c - p))).run Try.prog ((w.drewN k).alloc o) = .ok (.string (strOfNums ((l.drop p).take m))) ((w.drewN k).alloc o)) ∧
    (∀ o k j, (convert 52 9 (.slice A2 m (c - p))).run Try.prog (((w.drewN k).alloc o).drewN j) = .ok (.string (strOfNums ((l.drop p).take m))) (((w.drewN k).alloc o).drewN j)) := by
  obtain ⟨i5, hi5, hs5⟩ := info5s
  have h2 := h w .u8 l hnc hr
  have hlen : (l.drop p).length = n - p := h2.1
  have htl : ((l.drop p).take m).length = m := by rw [List.length_take]; omega
  refine ⟨fun W => ?_, fun k => ?_, fun o k => ?_, fun o k j => ?_⟩
  · have h3 := (print_take_int (P := Try.prog) (k := .u8) 52 5 Try.underlying52 hi5 hs5 A2 (c - p) (l.drop p) (m : Int) (by omega) (by omega) (by omega)).1 W
    rw [Int.toNat_natCast, htl, hlen] at h3
    exact h3
  · exact string_of_reads Try.underlying52 Try.underlying5 Try.underlying9 ((reads_heap h2 rfl).take_ m hm)
  · exact string_of_reads Try.underlying52 Try.underlying5 Try.underlying9 ((reads_heap (w' := (w.drewN k).alloc o) (reads_alloc h2 o) rfl).take_ m hm)
  · exact string_of_reads Try.underlying52 Try.underlying5 Try.underlying9 ((reads_heap (w' := ((w.drewN k).alloc o).drewN j) (reads_alloc h2 o) rfl).take_ m hm)

theorem bcell {W w1 : World} (hb : Below W.heap.size W w1) : (∀ b o, b < W.heap.size → w1.cell? ⟨b, o, none⟩ = W.cell? ⟨b, o, none⟩) ∧ (∀ b o, b < W.heap.size → w1.frozen? ⟨b, o, none⟩ = W.frozen? ⟨b, o, none⟩) :=
  ⟨fun b o h => hb.cell (p := ⟨b, o, none⟩) h, fun b o h => hb.frozen (p := ⟨b, o, none⟩) h⟩
theorem alloc_drewN (V : World) (k : Nat) (o : Obj) : (V.drewN k).alloc o = (V.alloc o).drewN k := rfl
theorem setCell_drewN (V : World) (k : Nat) (a : Addr) (v : Value) : (V.drewN k).setCell a v = (V.setCell a v).drewN k := rfl
theorem setCell_last (V : World) (g j : Nat) (cs : Array Value) (t : TypeId) (fr : Nat × Nat) (v : Value) (hg : g = V.heap.size) :
    (V.alloc (.cells cs t fr)).setCell ⟨g, j, none⟩ v = V.alloc (.cells (cs.setIfInBounds j v) t fr) := by
  subst hg
  rw [setCell_eq_setRow (V.alloc (.cells cs t fr)) V.heap.size j cs t fr v (heap_alloc_new V _), setRow_alloc]
theorem RS.far {w : World} {B : Nat} {A : Option Addr} {n c p : Nat} (h : RS w B A n c p) {g : Nat} (hne : B ≠ g) (j : Nat) (v : Value) : RS (w.setCell ⟨g, j, none⟩ v) B A n c p :=
  (Below.heap_setCell w ⟨g, j, none⟩ v B hne).trans h
theorem RS.below {w w' : World} {B : Nat} {A : Option Addr} {n c p : Nat} (h : RS w B A n c p) (hb : Below w.heap.size w w') : RS w' B A n c p := (hb.block B h.lt).trans h
theorem grown_new {w w1 : World} {row : Option Nat} (h : w.grownBy w1 row) {g : Nat} (hg : w.heap.size ≤ g) (j : Nat) (v : Value) : w.grownBy (w1.setCell ⟨g, j, none⟩ v) row :=
  ⟨h.os, h.tape, h.output, by have := h.size; simpa [World.setCell] using this, fun k hk hne => (Below.heap_setCell w1 ⟨g, j, none⟩ v k (show k ≠ g by omega)).trans (h.block k hk hne)⟩
theorem grown_row {w w1 : World} {B : Nat} (h : w.grownBy w1 (some B)) (j : Nat) (v : Value) : w.grownBy (w1.setCell ⟨B, j, none⟩ v) (some B) := h.trans (grown_set w1 B j v)
theorem grown_alloc {w w1 : World} {row : Option Nat} (h : w.grownBy w1 row) (o : Obj) : w.grownBy (w1.alloc o) row := h.trans (World.grownBy_alloc w1 o row)
theorem grown_draw {w w1 : World} {row : Option Nat} (h : w.grownBy w1 row) (k : Nat) : w.grownBy (w1.drewN k) row := h.trans (grown_drewN w1 k row)
theorem grown_below {w w1 w2 : World} {row : Option Nat} (h : w.grownBy w1 row) (hb : Below w1.heap.size w1 w2) : w.grownBy w2 row := h.trans (grown_of_below hb row)
theorem grown_refl (w : World) (row : Option Nat) : w.grownBy w row := World.grownBy.refl w row
theorem four_set (V : World) (g : Nat) (x0 x1 x2 x3 a b c d : Value) (t : TypeId) (fr : Nat × Nat) (hg : g = V.heap.size) :
    ((((V.alloc (.cells #[x0, x1, x2, x3] t fr)).setCell ⟨g, 0, none⟩ a).setCell ⟨g, 1, none⟩ b).setCell ⟨g, 2, none⟩ c).setCell ⟨g, 3, none⟩ d = V.alloc (.cells #[a, b, c, d] t fr) := by
  rw [setCell_last _ _ _ _ _ _ _ hg, setCell_last _ _ _ _ _ _ _ hg, setCell_last _ _ _ _ _ _ _ hg, setCell_last _ _ _ _ _ _ _ hg]
  rfl
theorem size_alloc' (w : World) (o : Obj) : (w.alloc o).heap.size = w.heap.size + 1 := by simp
theorem four_row {W : World} {g : Nat} {z0 z1 z2 z3 a b c d : Value} {t : TypeId} (h : W.heap[g]? = some (.cells #[z0, z1, z2, z3] t (0, 0))) :
    ((((W.setCell ⟨g, 0, none⟩ a).setCell ⟨g, 1, none⟩ b).setCell ⟨g, 2, none⟩ c).setCell ⟨g, 3, none⟩ d).heap[g]? = some (.cells #[a, b, c, d] t (0, 0)) :=
  heap_setCell_same _ _ _ _ _ _ (heap_setCell_same _ _ _ _ _ _ (heap_setCell_same _ _ _ _ _ _ (heap_setCell_same _ _ _ _ _ _ h)))
theorem far_row {W : World} {g g' j : Nat} {v : Value} {o : Obj} (h : W.heap[g]? = some o) (hne : g ≠ g') : (W.setCell ⟨g', j, none⟩ v).heap[g]? = some o := (Below.heap_setCell W ⟨g', j, none⟩ v g hne).trans h
/-- The results of name, number, sign, token: a Token that lies in memory, and the error. -/
theorem tok_results {fn : Func} {tmps : Array Value} {W : World} {g : Nat} {err : Int} {cs : Array Value} (hr : fn.results = #[.cell 2 92, .tmp 3]) (hp : tmps.getD 2 undef = .pointer (some ⟨g, 0, none⟩)) (he : tmps.getD 3 undef = .int .i64 err)
    (hg : W.heap[g]? = some (.cells cs 92 (0, 0))) (hc : cs.size = 4) : (results fn tmps).run Try.prog W = .ok (.tuple #[.agg cs, .int .i64 err]) W := by
  have h := results_list (P := Try.prog) (tmps := tmps) (w := W) (fn := fn) (rs := [.cell 2 92, .tmp 3]) (vs := [.agg cs, tmps.getD 3 undef]) hr (by simp) (.cell g 92 cs (0, 0) _ hp hg Try.underlying92 rfl (by rw [hc]; kernel_rfl) (.tmp .nil))
  rw [he] at h
  exact h
theorem new_row {w w' : World} {o o2 : Obj} {k : Nat} (hb : Below (((w.alloc o).alloc o2).drewN k).heap.size (((w.alloc o).alloc o2).drewN k) w') : w'.heap[w.heap.size]? = some o ∧ w'.heap[w.heap.size + 1]? = some o2 := by
  constructor
  · rw [hb.block w.heap.size (by simp; omega), World.heap_drewN]
    exact heap_alloc2_old w o o2
  · rw [hb.block (w.heap.size + 1) (by simp), World.heap_drewN]
    exact heap_alloc2_new w o o2
def nameTok (p : Int) (s : ByteArray) : Tok := if wordK s = 1 then ⟨1, p, 0, s⟩ else ⟨wordK s, p, 0, ⟨#[]⟩⟩

set_option maxHeartbeats 2000000 in
theorem name_yes (B : Nat) (A : Option Addr) (n c p m : Nat) (l : List Int) (w : World) (hs : RS w B A n c p) (hp : p ≤ n) (hnc : n ≤ c) (hr : ReadsInt w .u8 A n l) (hf : Far A B n) (hb : byteRange l) (hm : strL true (l.drop p) = m) (h64 : m ≤ 64) :
    Calls Try.prog 90 #[.pointer (some ⟨B, 0, none⟩)] w fun e w' => e = .returned (.tuple #[.agg (nameTok p (strOfNums ((l.drop p).take m))).cells, .int .i64 0]) ∧ RS w' B A n c (p + m) ∧ w.grownBy w' (some B) := by
  have hn := hr.2.1
  have hstr : m ≤ n - p := by
    have h := strL_le true (l.drop p)
    rw [List.length_drop, hr.1, hm] at h
    exact h
  have HM := Lib.hid hm
  have HR := Lib.hid hr
  have HS := Lib.hid hs
  have HB := Lib.hid hb
  have HF := Lib.hid hf
  have hlen := Lib.hid hr.1
  have hlt := hs.lt
  have c0 := hs.c0
  have c1 := hs.c1
  have f1 := hs.f1
  clear hr hs hb hf hm
  go_enter Try.func90, Try.ntmps90
  go_wp2_with (go_at_call 93; refine (stretch_any B true A n c p l _ (by exact (HS.out.alloc _).c0) (by exact (HS.out.alloc _).c1) hp hnc (by exact reads_alloc HR.out _) (by exact HB.out)).mono ?_; rintro e w' ⟨rfl, nq, rfl⟩; rw [HM.out])
  obtain ⟨Z, hz⟩ : ∃ Z, Z = (Obj.cells #[Value.int IntKind.i64 0, Value.int IntKind.i64 0, Value.int IntKind.i64 0, Value.string ⟨#[]⟩] 92) := ⟨_, rfl⟩
  rw [← hz]
  have HZ := Lib.hid hz
  clear hz
  go_cut [5] (fun t w1 => t = .pointer (some ⟨w.heap.size + 1, 0, none⟩) ∧ ∃ k, w1 = ((w.alloc Z).alloc (.cells #[.int .i64 1, .int .i64 (p : Int), .int .i64 0, .string (strOfNums ((l.drop p).take m))] 92)).drewN k)
  case first =>
    go_region_with (go_at_call 89; refine (rest_any B A n c p _ (by first | exact (HS.out.alloc _).c0 | exact (((HS.out.alloc _).drewN _).alloc _).c0) (by first | exact (HS.out.alloc _).c1 | exact (((HS.out.alloc _).drewN _).alloc _).c1) hp).mono ?_; rintro e w' ⟨A2, rfl, HRD2, nq2, rfl⟩; obtain ⟨hsl, hcv, hcw, hcu⟩ := cut_string HRD2 hnc (reads_alloc HR.out Z) hstr; clear HRD2)
    all_goals
      go_wp2_with fail
      go_meet
      refine ⟨rfl, ?_⟩
      simp only [alloc_drewN, setCell_drewN, World.drewN_drewN]
      try rw [four_set _ _ _ _ _ _ _ _ _ _ _ _ (size_alloc' w Z).symm]
      exact ⟨_, rfl⟩
  case rest =>
    obtain ⟨rfl, k, rfl⟩ := hcut
    generalize hss : strOfNums ((l.drop p).take m) = s at *
    have HSS := Lib.hid hss
    clear hss
    have hz := HZ.out
    subst hz
    by_cases hk : wordK s = 1
    · have hlt2 : B < w.heap.size + 1 + 1 := by omega
      have hne1 : B ≠ w.heap.size := by omega
      have hne2 : B ≠ w.heap.size + 1 := by omega
      have hk1 : (wordK s == 1) = true := by simp [hk]
      have hk2 : (wordK s != 1) = false := by simp [hk]
      have HK := Lib.hid hk
      clear hk
      go_wp2_with (go_at_call 94; refine (word_any s _).mono ?_; rintro e w' ⟨rfl, hb1⟩; obtain ⟨hc1, hf1⟩ := bcell hb1)
      rw [HSS.out]
      obtain ⟨r1, r2⟩ := new_row hb1
      have e : (nameTok p s).cells = #[.int .i64 1, .int .i64 (p : Int), .int .i64 0, .string s] := by unfold nameTok; rw [if_pos HK.out]; rfl
      refine bodyPost_ret (v := .tuple #[.agg (nameTok p s).cells, .int .i64 0]) (by rw [e]; exact tok_results Try.results90 rfl rfl (four_row (far_row r1 (Ne.symm hne1))) rfl) rfl ⟨rfl, ?_, ?_⟩
      · exact ((((((((HS.out.alloc _).alloc _).drewN k).below hb1).set (p + m)).far hne1 _ _).far hne1 _ _).far hne1 _ _).far hne1 _ _
      · exact grown_new (grown_new (grown_new (grown_new (grown_row (grown_below (grown_draw (grown_alloc (grown_alloc (grown_refl w (some B)) _) _) k) hb1) _ _) (Nat.le_refl _) _ _) (Nat.le_refl _) _ _) (Nat.le_refl _) _ _) (Nat.le_refl _) _ _
    · have hlt2 : B < w.heap.size + 1 + 1 := by omega
      have hne1 : B ≠ w.heap.size := by omega
      have hne2 : B ≠ w.heap.size + 1 := by omega
      have hk1 : (wordK s == 1) = false := by simp [hk]
      have hk2 : (wordK s != 1) = true := by simp [hk]
      have HK := Lib.hid hk
      clear hk
      go_wp2_with (go_at_call 94; refine (word_any s _).mono ?_; rintro e w' ⟨rfl, hb1⟩; obtain ⟨hc1, hf1⟩ := bcell hb1)
      rw [HSS.out]
      obtain ⟨r1, r2⟩ := new_row hb1
      have e : (nameTok p s).cells = #[.int .i64 (wordK s), .int .i64 (p : Int), .int .i64 0, .string ⟨#[]⟩] := by unfold nameTok; rw [if_neg HK.out]; rfl
      have hg := grown_below (grown_draw (grown_alloc (grown_alloc (grown_refl w (some B)) _) _) k) hb1
      have hw : w.heap.size ≤ w.heap.size + 1 := Nat.le_succ _
      have hne3 : w.heap.size ≠ w.heap.size + 1 := by omega
      refine bodyPost_ret (v := .tuple #[.agg (nameTok p s).cells, .int .i64 0]) (by rw [e]; exact tok_results Try.results90 rfl rfl (four_row (far_row (far_row (far_row (far_row (far_row r1 hne3) hne3) hne3) hne3) (Ne.symm hne1))) rfl) rfl ⟨rfl, ?_, ?_⟩
      · exact ((((((((((((HS.out.alloc _).alloc _).drewN k).below hb1).far hne2 _ _).far hne2 _ _).far hne2 _ _).far hne2 _ _).set (p + m)).far hne1 _ _).far hne1 _ _).far hne1 _ _).far hne1 _ _
      · exact grown_new (grown_new (grown_new (grown_new (grown_row (grown_new (grown_new (grown_new (grown_new hg hw _ _) hw _ _) hw _ _) hw _ _) _ _) (Nat.le_refl _) _ _) (Nat.le_refl _) _ _) (Nat.le_refl _) _ _) (Nat.le_refl _) _ _

end Go.Proofs.Ytgbeliajhccndaa.Lex
set_option linter.unusedVariables false
set_option linter.unusedSimpArgs false
namespace Go.Proofs.Ytgbeliajhccndaa.Lex
open Go.RowKit Go.Proofs.YtgbeliajhccndaaW.PrintWords Go.Proofs.YtgbeliajhccndaaW.PrintLast Go.Proofs.YtgbeliajhccndaaW.PrintMore

set_option maxHeartbeats 2000000 in
theorem name_no (B : Nat) (A : Option Addr) (n c p m : Nat) (l : List Int) (w : World) (hs : RS w B A n c p) (hp : p ≤ n) (hnc : n ≤ c) (hr : ReadsInt w .u8 A n l) (hf : Far A B n) (hb : byteRange l) (hm : strL true (l.drop p) = m) (h64 : 64 < m) :
    Calls Try.prog 90 #[.pointer (some ⟨B, 0, none⟩)] w fun e w' => e = .returned (.tuple #[.agg Tok.nil.cells, .int .i64 21]) ∧ RS w' B A n c p ∧ w.grownBy w' (some B) := by
  have hn := hr.2.1
  have hstr : m ≤ n - p := by
    have h := strL_le true (l.drop p)
    rw [List.length_drop, hr.1, hm] at h
    exact h
  have HM := Lib.hid hm
  have HR := Lib.hid hr
  have HS := Lib.hid hs
  have HB := Lib.hid hb
  have HF := Lib.hid hf
  have hlen := Lib.hid hr.1
  have hlt := hs.lt
  have hne1 : B ≠ w.heap.size := by omega
  clear hr hs hb hf hm
  go_enter Try.func90, Try.ntmps90
  go_wp2_with (go_at_call 93; refine (stretch_any B true A n c p l _ (by exact (HS.out.alloc _).c0) (by exact (HS.out.alloc _).c1) hp hnc (by exact reads_alloc HR.out _) (by exact HB.out)).mono ?_; rintro e w' ⟨rfl, nq, rfl⟩; rw [HM.out])
  refine bodyPost_ret (v := .tuple #[.agg Tok.nil.cells, .int .i64 21]) (by exact tok_results Try.results90 rfl rfl (four_row (heap_alloc_new w _)) rfl) rfl ⟨rfl, ?_, ?_⟩
  · exact ((((((HS.out.alloc _).drewN nq).far hne1 _ _).far hne1 _ _).far hne1 _ _).far hne1 _ _)
  · exact grown_new (grown_new (grown_new (grown_new (grown_draw (grown_alloc (grown_refl w (some B)) _) nq) (Nat.le_refl _) _ _) (Nat.le_refl _) _ _) (Nat.le_refl _) _ _) (Nat.le_refl _) _ _

def numFrom (v : Int) : List Int → Option Int
  | [] => some v
  | c :: r => if (9223372036854775807 - (c - 48)) / 10 < v then none else numFrom (10 * v + (c - 48)) r
def NumIs (ds : List Int) (x : Int) (k : Nat) (r : Option Int) : Prop := numFrom x (ds.drop k) = r
def BigOk (x d : Int) : Prop := x ≤ (9223372036854775807 - d) / 10
theorem num_bad {ds : List Int} {x cv : Int} {k : Nat} {r : Option Int} (h : NumIs ds x k r) (hk : k < ds.length) (hc : rd ds k = cv) (hb : (9223372036854775807 - (cv - 48)) / 10 < x) : r = none := by
  unfold NumIs at h
  rw [drop_rd ds k hk, hc, numFrom, if_pos hb] at h
  exact h.symm
theorem num_go {ds : List Int} {x cv : Int} {k : Nat} {r : Option Int} (h : NumIs ds x k r) (hk : k < ds.length) (hc : rd ds k = cv) (hb : ¬ (9223372036854775807 - (cv - 48)) / 10 < x) : NumIs ds (10 * x + (cv - 48)) (k + 1) r := by
  unfold NumIs at h ⊢
  rw [drop_rd ds k hk, hc, numFrom, if_neg hb] at h
  exact h
theorem num_end {ds : List Int} {x : Int} {k : Nat} {r : Option Int} (h : NumIs ds x k r) (hk : ds.length ≤ k) : r = some x := by
  unfold NumIs at h
  rw [List.drop_eq_nil_of_le hk] at h
  exact h.symm
theorem rd_take (l : List Int) (m k : Nat) (h : k < m) : rd (l.take m) k = rd l k := by
  unfold rd
  rw [Int.toNat_natCast]
  simp [List.getD_eq_getElem?_getD, List.getElem?_take, h]
theorem tw_all {l : List Int} (b : Bool) : ∀ k, k < strL b l → strOk b (rd l k) = true := by
  intro k hk
  unfold strL at hk
  have h1 : k < l.length := Nat.lt_of_lt_of_le hk (length_tw _ _)
  have h2 : rd l k = l[k] := by simp [rd, List.getD_eq_getElem?_getD, List.getElem?_eq_getElem h1]
  have h3 : (l.takeWhile (strOk b))[k] = l[k] := (List.takeWhile_prefix (strOk b)).getElem hk
  rw [h2, ← h3]
  exact List.all_eq_true.1 List.all_takeWhile _ (List.getElem_mem hk)
theorem digit_of {c : Int} (h : strOk false c = true) : 48 ≤ c ∧ c ≤ 57 := by
  simp [strOk] at h
  unfold cls at h
  split at h
  · omega
  · split at h
    · assumption
    · split at h
      · omega
      · split at h <;> omega

def NumPost (w' : World) (B : Nat) (A : Option Addr) (n c p m : Nat) : Option Int → Ending → Prop
  | none, e => e = .returned (.tuple #[.agg Tok.nil.cells, .int .i64 22]) ∧ RS w' B A n c p
  | some v, e => e = .returned (.tuple #[.agg (Tok.mk 2 p v ⟨#[]⟩).cells, .int .i64 0]) ∧ RS w' B A n c (p + m)
theorem row_alloc {w : World} {g : Nat} {o : Obj} (h : w.heap[g]? = some o) (o2 : Obj) : (w.alloc o2).heap[g]? = some o := ((World.grownBy_alloc w o2 none).block g (Array.getElem?_eq_some_iff.1 h).1 (by simp)).trans h
theorem cell_zero {w : World} {A : Option Addr} {n : Nat} {ds : List Int} (h : ReadsInt w .u8 A n ds) (h0 : 0 < n) : ∃ ad, A = some ad ∧ w.cell? ad = some (.int .u8 (rd ds 0)) := by
  obtain ⟨ad, e, hc⟩ := h.2.2 h0
  refine ⟨ad, e, ?_⟩
  have := hc 0 h0
  rwa [show ad.add 0 = ad by unfold Addr.add; simp] at this

set_option maxHeartbeats 2000000 in
theorem number_any (B : Nat) (A : Option Addr) (n c p m : Nat) (l : List Int) (w : World) (r : Option Int) (hs : RS w B A n c p) (hp : p ≤ n) (hnc : n ≤ c) (hr : ReadsInt w .u8 A n l) (hf : Far A B n) (hb : byteRange l) (hm : strL false (l.drop p) = m) (hm0 : 0 < m) (hz : 1 < m → rd l p ≠ 48) (hN : NumIs ((l.drop p).take m) 0 0 r) :
    Calls Try.prog 91 #[.pointer (some ⟨B, 0, none⟩)] w fun e w' => NumPost w' B A n c p m r e ∧ w.grownBy w' (some B) := by
  have hn := hr.2.1
  have hstr : m ≤ n - p := by
    have h := strL_le false (l.drop p)
    rw [List.length_drop, hr.1, hm] at h
    exact h
  have hdig : ∀ k, k < m → 48 ≤ rd ((l.drop p).take m) k ∧ rd ((l.drop p).take m) k ≤ 57 := by
    intro k hk
    rw [rd_take _ _ _ hk]
    exact digit_of (tw_all false k (by omega))
  have hfst : rd ((l.drop p).take m) 0 = rd l p := by
    have := rd_take (l.drop p) m 0 hm0
    rw [show ((0 : Nat) : Int) = 0 from rfl] at this
    rw [this, rd_drop0]
  have HFST := Lib.hid hfst
  generalize hds : (l.drop p).take m = ds at *
  have HDS := Lib.hid hds
  have HDIG := Lib.hid hdig
  have HM := Lib.hid hm
  have HR := Lib.hid hr
  have HS := Lib.hid hs
  have HB := Lib.hid hb
  have HF := Lib.hid hf
  have HNN := Lib.hid hN
  have hlen := Lib.hid hr.1
  have hltB := hs.lt
  have hne1 : B ≠ w.heap.size := by omega
  have hne2 : B ≠ w.heap.size + 1 := by omega
  have c1 := hs.c1
  have f1 := hs.f1
  generalize hfv : rd l p = fv at *
  have hz' : 1 < m → (fv == 48) = false := fun h => by simpa using hz h
  have HFV := Lib.hid hfv
  clear hr hs hb hf hm hN hz hfst hds hdig hfv
  have hgd : (m ≤ 1) ∨ (1 < m ∧ (fv == 48) = false) := by
    rcases Nat.lt_or_ge 1 m with h | h
    · exact .inr ⟨h, hz' h⟩
    · exact .inl h
  clear hz'
  go_enter Try.func91, Try.ntmps91
  go_wp2_with (go_at_call 93; refine (stretch_any B false A n c p l _ (by exact (HS.out.alloc _).c0) (by exact (HS.out.alloc _).c1) hp hnc (by exact reads_alloc HR.out _) (by exact HB.out)).mono ?_; rintro e w' ⟨rfl, nq, rfl⟩; rw [HM.out])
  obtain ⟨Z, hz⟩ : ∃ Z, Z = (Obj.cells #[Value.int IntKind.i64 0, Value.int IntKind.i64 0, Value.int IntKind.i64 0, Value.string ⟨#[]⟩] 92) := ⟨_, rfl⟩
  rw [← hz]
  have HZ := Lib.hid hz
  clear hz
  refine (rest_any B A n c p _ (by exact (HS.out.alloc _).c0) (by exact (HS.out.alloc _).c1) hp).mono ?_
  rintro e w' ⟨A2, rfl, HRD2, nq2, rfl⟩
  obtain ⟨hsl, _, _, _⟩ := cut_string HRD2 hnc (reads_alloc HR.out Z) hstr
  have HX0 := (HRD2 _ .u8 l hnc (reads_alloc HR.out Z)).take_ m hstr
  rw [HDS.out] at HX0
  obtain ⟨ad, hA, hcell⟩ := cell_zero HX0 hm0
  rw [HFST.out] at hcell
  have HX := Lib.hid HX0
  clear HX0 HRD2
  obtain rfl := hA
  rcases hgd with h1 | ⟨h1, hz2⟩
  all_goals
    go_wp2
    go_loop [6, 28] (fun v i => ∃ (k : Nat) (x : Int), k ≤ m ∧ i = .int .i64 k ∧ v = .int .i64 x ∧ 0 ≤ x ∧ x ≤ 9223372036854775807 ∧ Hid (NumIs ds x k r)) (fun _ i => m - (intOf i).toNat)
    case atStart => exact ⟨0, 0, Nat.zero_le _, rfl, rfl, by omega, by omega, HNN⟩
    case round =>
      obtain ⟨k, x, hk, rfl, rfl, hx0, hx1, HK⟩ := hrel
      have hz := HZ.out
      subst hz
      by_cases hlt : k < m
      · obtain ⟨ad', hA, hcell⟩ := HX.out.at_ (k : Int) (by omega) (by omega)
        obtain rfl := Option.some.inj hA
        rw [Int.toNat_natCast] at hcell
        have hd := HDIG.out k hlt
        generalize hcv : rd ds k = cv at *
        have HCV := Lib.hid hcv
        clear hcv
        by_cases hbig : (9223372036854775807 - (cv - 48)) / 10 < x
        · have hr := num_bad HK.out (by rw [HX.out.1]; exact hlt) HCV.out hbig
          go_wp2
          refine bodyPost_ret (v := .tuple #[.agg Tok.nil.cells, .int .i64 22]) (by exact tok_results Try.results91 rfl rfl (four_row (heap_alloc_new w _)) rfl) rfl ⟨?_, ?_⟩
          · exact ⟨rfl, ((((((HS.out.alloc _).drewN _).far hne1 _ _).far hne1 _ _).far hne1 _ _).far hne1 _ _)⟩
          · exact grown_new (grown_new (grown_new (grown_new (grown_draw (grown_alloc (grown_refl w (some B)) _) _) (Nat.le_refl _) _ _) (Nat.le_refl _) _ _) (Nat.le_refl _) _ _) (Nat.le_refl _) _ _
        · have hb2 : 10 * x + (cv - 48) ≤ 9223372036854775807 := by omega
          have HN3 := Lib.hid (num_go HK.out (by rw [HX.out.1]; exact hlt) HCV.out hbig)
          go_wp2
          go_round
          case rel => exact ⟨k + 1, 10 * x + (cv - 48), by omega, by go_num, rfl, by omega, by omega, HN3⟩
          case measure => simp [intOf]; omega
      · have HRR := Lib.hid (num_end HK.out (by rw [HX.out.1]; omega))
        have hw : w.heap.size ≤ w.heap.size + 1 := Nat.le_succ _
        go_wp2
        refine bodyPost_ret (v := .tuple #[.agg (Tok.mk 2 p x ⟨#[]⟩).cells, .int .i64 0]) (by exact tok_results Try.results91 rfl rfl (row_alloc (four_row (far_row (heap_alloc_new w _) (Ne.symm hne1))) _) rfl) rfl ⟨?_, ?_⟩
        · rw [HRR.out]
          exact ⟨rfl, (((((((HS.out.alloc _).drewN _).set (p + m)).far hne1 _ _).far hne1 _ _).far hne1 _ _).far hne1 _ _).alloc _⟩
        · exact grown_alloc (grown_new (grown_new (grown_new (grown_new (grown_row (grown_draw (grown_alloc (grown_refl w (some B)) _) _) _ _) (Nat.le_refl _) _ _) (Nat.le_refl _) _ _) (Nat.le_refl _) _ _) (Nat.le_refl _) _ _) _
end Go.Proofs.Ytgbeliajhccndaa.Lex
set_option linter.unusedVariables false
set_option linter.unusedSimpArgs false
namespace Go.Proofs.Ytgbeliajhccndaa.Lex
open Go.RowKit Go.Proofs.YtgbeliajhccndaaW.PrintWords Go.Proofs.YtgbeliajhccndaaW.PrintLast Go.Proofs.YtgbeliajhccndaaW.PrintMore

set_option maxHeartbeats 2000000 in
theorem number_zero (B : Nat) (A : Option Addr) (n c p m : Nat) (l : List Int) (w : World) (hs : RS w B A n c p) (hp : p ≤ n) (hnc : n ≤ c) (hr : ReadsInt w .u8 A n l) (hb : byteRange l) (hm : strL false (l.drop p) = m) (hm0 : 1 < m) (hz : rd l p = 48) :
    Calls Try.prog 91 #[.pointer (some ⟨B, 0, none⟩)] w fun e w' => NumPost w' B A n c p m none e ∧ w.grownBy w' (some B) := by
  have hn := hr.2.1
  have hstr : m ≤ n - p := by
    have h := strL_le false (l.drop p)
    rw [List.length_drop, hr.1, hm] at h
    exact h
  have hfst : rd ((l.drop p).take m) 0 = rd l p := by
    have := rd_take (l.drop p) m 0 (by omega)
    rw [show ((0 : Nat) : Int) = 0 from rfl] at this
    rw [this, rd_drop0]
  rw [hz] at hfst
  have HFST := Lib.hid hfst
  generalize hds : (l.drop p).take m = ds at *
  have HDS := Lib.hid hds
  have HM := Lib.hid hm
  have HR := Lib.hid hr
  have HS := Lib.hid hs
  have HB := Lib.hid hb
  have hltB := hs.lt
  have hne1 : B ≠ w.heap.size := by omega
  clear hr hs hb hm hz hfst hds
  go_enter Try.func91, Try.ntmps91
  go_wp2_with (go_at_call 93; refine (stretch_any B false A n c p l _ (by exact (HS.out.alloc _).c0) (by exact (HS.out.alloc _).c1) hp hnc (by exact reads_alloc HR.out _) (by exact HB.out)).mono ?_; rintro e w' ⟨rfl, nq, rfl⟩; rw [HM.out])
  obtain ⟨Z, hz⟩ : ∃ Z, Z = (Obj.cells #[Value.int IntKind.i64 0, Value.int IntKind.i64 0, Value.int IntKind.i64 0, Value.string ⟨#[]⟩] 92) := ⟨_, rfl⟩
  rw [← hz]
  refine (rest_any B A n c p _ (by exact (HS.out.alloc _).c0) (by exact (HS.out.alloc _).c1) hp).mono ?_
  rintro e w' ⟨A2, rfl, HRD2, nq2, rfl⟩
  obtain ⟨hsl, _, _, _⟩ := cut_string HRD2 hnc (reads_alloc HR.out Z) hstr
  have HX0 := (HRD2 _ .u8 l hnc (reads_alloc HR.out Z)).take_ m hstr
  rw [HDS.out] at HX0
  obtain ⟨ad, hA, hcell⟩ := cell_zero HX0 (by omega)
  rw [HFST.out] at hcell
  have HX := Lib.hid HX0
  clear HX0 HRD2
  obtain rfl := hA
  subst hz
  go_wp2
  refine bodyPost_ret (v := .tuple #[.agg Tok.nil.cells, .int .i64 22]) (by exact tok_results Try.results91 rfl rfl (four_row (heap_alloc_new w _)) rfl) rfl ⟨?_, ?_⟩
  · exact ⟨rfl, ((((((HS.out.alloc _).drewN _).far hne1 _ _).far hne1 _ _).far hne1 _ _).far hne1 _ _)⟩
  · exact grown_new (grown_new (grown_new (grown_new (grown_draw (grown_alloc (grown_refl w (some B)) _) _) (Nat.le_refl _) _ _) (Nat.le_refl _) _ _) (Nat.le_refl _) _ _) (Nat.le_refl _) _ _

/-- rest, and all that is wanted of 'r.rest()[:m]', in worlds that are w0 but for draws. -/
theorem rest_cutN (B : Nat) (A : Option Addr) (n c p m : Nat) (l : List Int) (w0 : World) (a : Nat) (hs : RS w0 B A n c p) (hr : ReadsInt w0 .u8 A n l) (hp : p ≤ n) (hnc : n ≤ c) (hm : m ≤ n - p) :
    Calls Try.prog 89 #[.pointer (some ⟨B, 0, none⟩)] (w0.drewN a) fun e w' => ∃ (A2 : Option Addr) (nq : Nat), e = .returned (.slice A2 (n - p) (c - p)) ∧ w' = w0.drewN nq ∧
      (∀ W : World, (Instr.slice 52 (.slice A2 (n - p) (c - p)) none (some (.int .i64 (m : Int))) none).run Try.prog W = .ok (.slice A2 m (c - p)) W) ∧
      (∀ k, (convert 52 9 (.slice A2 m (c - p))).run Try.prog (w0.drewN k) = .ok (.string (strOfNums ((l.drop p).take m))) (w0.drewN k)) ∧
      (∀ o k, (convert 52 9 (.slice A2 m (c - p))).run Try.prog ((w0.drewN k).alloc o) = .ok (.string (strOfNums ((l.drop p).take m))) ((w0.drewN k).alloc o)) ∧
      (∀ o k j, (convert 52 9 (.slice A2 m (c - p))).run Try.prog (((w0.drewN k).alloc o).drewN j) = .ok (.string (strOfNums ((l.drop p).take m))) (((w0.drewN k).alloc o).drewN j)) ∧
      Hid (ReadsInt w0 .u8 A2 (n - p) (l.drop p)) := by
  refine (rest_any B A n c p _ (hs.drewN a).c0 (hs.drewN a).c1 hp).mono ?_
  rintro e w' ⟨A2, rfl, h, nq, rfl⟩
  obtain ⟨h1, h2, h3, h4⟩ := cut_string h hnc hr hm
  exact ⟨A2, a + nq, rfl, World.drewN_drewN _ _ _, h1, h2, h3, h4, Lib.hid (h w0 .u8 l hnc hr)⟩
theorem rest_cut (B : Nat) (A : Option Addr) (n c p m : Nat) (l : List Int) (w0 : World) (hs : RS w0 B A n c p) (hr : ReadsInt w0 .u8 A n l) (hp : p ≤ n) (hnc : n ≤ c) (hm : m ≤ n - p) :
    Calls Try.prog 89 #[.pointer (some ⟨B, 0, none⟩)] w0 fun e w' => ∃ (A2 : Option Addr) (nq : Nat), e = .returned (.slice A2 (n - p) (c - p)) ∧ w' = w0.drewN nq ∧
      (∀ W : World, (Instr.slice 52 (.slice A2 (n - p) (c - p)) none (some (.int .i64 (m : Int))) none).run Try.prog W = .ok (.slice A2 m (c - p)) W) ∧
      (∀ k, (convert 52 9 (.slice A2 m (c - p))).run Try.prog (w0.drewN k) = .ok (.string (strOfNums ((l.drop p).take m))) (w0.drewN k)) ∧
      (∀ o k, (convert 52 9 (.slice A2 m (c - p))).run Try.prog ((w0.drewN k).alloc o) = .ok (.string (strOfNums ((l.drop p).take m))) ((w0.drewN k).alloc o)) ∧
      (∀ o k j, (convert 52 9 (.slice A2 m (c - p))).run Try.prog (((w0.drewN k).alloc o).drewN j) = .ok (.string (strOfNums ((l.drop p).take m))) (((w0.drewN k).alloc o).drewN j)) ∧
      Hid (ReadsInt w0 .u8 A2 (n - p) (l.drop p)) := rest_cutN B A n c p m l w0 0 hs hr hp hnc hm

set_option maxHeartbeats 2000000 in
theorem sign_two (B : Nat) (A : Option Addr) (n c p : Nat) (l : List Int) (w : World) (k : Int) (hs : RS w B A n c p) (hp : p + 1 < n) (hnc : n ≤ c) (hr : ReadsInt w .u8 A n l) (hk : twoK (strOfNums ((l.drop p).take 2)) = k) (hk0 : k ≠ 0) :
    Calls Try.prog 92 #[.pointer (some ⟨B, 0, none⟩)] w fun e w' => (e = .returned (.tuple #[.agg (Tok.mk k p 0 ⟨#[]⟩).cells, .int .i64 0]) ∧ RS w' B A n c (p + 2)) ∧ w.grownBy w' (some B) := by
  have hn := hr.2.1
  have hkb : (k == 0) = false := by simpa using hk0
  have HK := Lib.hid hk
  have HR := Lib.hid hr
  have HS := Lib.hid hs
  have hltB := hs.lt
  have hne1 : B ≠ w.heap.size := by omega
  have hne2 : B ≠ w.heap.size + 1 := by omega
  have c1 := hs.c1
  have f1 := hs.f1
  have hp' : p ≤ n := by omega
  have h2 : 2 ≤ n - p := by omega
  clear hr hs hk hk0
  go_enter Try.func92, Try.ntmps92
  go_wp2_with (first | (go_at_call 89; (with_reducible refine (rest_cutN B A n c p 2 l _ _ (by exact (HS.out.alloc _).alloc _) (by exact reads_alloc (reads_alloc HR.out _) _) hp' hnc h2).mono ?_); rintro e w' ⟨A2, nq2, rfl, rfl, hsl, hcv, hcw, hcu, HX⟩) | (go_at_call 89; refine (rest_cut B A n c p 2 l _ (by exact (HS.out.alloc _).alloc _) (by exact reads_alloc (reads_alloc HR.out _) _) hp' hnc h2).mono ?_; rintro e w' ⟨A2, nq2, rfl, rfl, hsl, hcv, hcw, hcu, HX⟩) | (go_at_call 95; refine (two_any _ _).mono ?_; rw [HK.out]; rintro e w' ⟨rfl, rfl⟩))
  have hw : w.heap.size ≤ w.heap.size + 1 := Nat.le_succ _
  have hne3 : w.heap.size ≠ w.heap.size + 1 := by omega
  refine bodyPost_ret (v := .tuple #[.agg (Tok.mk k p 0 ⟨#[]⟩).cells, .int .i64 0]) (by exact tok_results Try.results92 rfl rfl (four_row (far_row (far_row (heap_alloc2_old w _ _) hne3) (Ne.symm hne1))) rfl) rfl ⟨⟨rfl, ?_⟩, ?_⟩
  · exact ((((((((HS.out.alloc _).alloc _).drewN _).far hne2 _ _).set (p + 2)).far hne1 _ _).far hne1 _ _).far hne1 _ _).far hne1 _ _
  · exact grown_new (grown_new (grown_new (grown_new (grown_row (grown_new (grown_draw (grown_alloc (grown_alloc (grown_refl w (some B)) _) _) _) hw _ _) _ _) (Nat.le_refl _) _ _) (Nat.le_refl _) _ _) (Nat.le_refl _) _ _) (Nat.le_refl _) _ _

end Go.Proofs.Ytgbeliajhccndaa.Lex
set_option linter.unusedVariables false
set_option linter.unusedSimpArgs false
namespace Go.Proofs.Ytgbeliajhccndaa.Lex
open Go.RowKit Go.Proofs.YtgbeliajhccndaaW.PrintWords Go.Proofs.YtgbeliajhccndaaW.PrintLast Go.Proofs.YtgbeliajhccndaaW.PrintMore

theorem below_row {w w1 : World} {g : Nat} {o : Obj} (h : w.heap[g]? = some o) (hb : Below w.heap.size w w1) : w1.heap[g]? = some o := (hb.block g (Array.getElem?_eq_some_iff.1 h).1).trans h
theorem row_cell {w : World} {g : Nat} {x0 x1 x2 x3 : Value} {t : TypeId} (h : w.heap[g]? = some (.cells #[x0, x1, x2, x3] t (0, 0))) :
    w.cell? ⟨g, 0, none⟩ = some x0 ∧ w.cell? ⟨g, 1, none⟩ = some x1 ∧ w.cell? ⟨g, 2, none⟩ = some x2 ∧ w.cell? ⟨g, 3, none⟩ = some x3 ∧ ∀ j, w.frozen? ⟨g, j, none⟩ = false := by
  refine ⟨?_, ?_, ?_, ?_, fun j => ?_⟩ <;> simp [World.cell?, World.frozen?, h]
theorem grown_any {w w1 : World} (h : w.grownBy w1 none) (row : Option Nat) : w.grownBy w1 row := ⟨h.os, h.tape, h.output, h.size, fun k hk _ => h.block k hk (by simp)⟩
def SignPost (w' : World) (B : Nat) (A : Option Addr) (n c p : Nat) (k : Int) (e : Ending) : Prop :=
  if k = 0 then e = .returned (.tuple #[.agg Tok.nil.cells, .int .i64 20]) ∧ RS w' B A n c p
  else e = .returned (.tuple #[.agg (Tok.mk k p 0 ⟨#[]⟩).cells, .int .i64 0]) ∧ RS w' B A n c (p + 1)
set_option maxHeartbeats 2000000 in
theorem sign_one (B : Nat) (A : Option Addr) (n c p : Nat) (l : List Int) (w : World) (k cv : Int) (hs : RS w B A n c p) (hp : p < n) (hnc : n ≤ c) (hr : ReadsInt w .u8 A n l) (hcv : rd l p = cv) (hk2 : p + 1 < n → twoK (strOfNums ((l.drop p).take 2)) = 0) (hk : oneK cv = k) :
    Calls Try.prog 92 #[.pointer (some ⟨B, 0, none⟩)] w fun e w' => SignPost w' B A n c p k e ∧ w.grownBy w' (some B) := by
  have hn := hr.2.1
  have HK := Lib.hid hk
  have HR := Lib.hid hr
  have HS := Lib.hid hs
  have hltB := hs.lt
  have hne1 : B ≠ w.heap.size := by omega
  have hne2 : B ≠ w.heap.size + 1 := by omega
  have c0 := hs.c0
  have c1 := hs.c1
  have f1 := hs.f1
  have hp' : p ≤ n := by omega
  obtain ⟨ad, hA, hcell⟩ := hr.at_ (p : Int) (by omega) (by omega)
  obtain rfl := hA
  rw [Int.toNat_natCast, hcv] at hcell
  clear hr hs hk hcv
  have hcase : (p + 1 < n ∧ twoK (strOfNums ((l.drop p).take 2)) = 0) ∨ n ≤ p + 1 := by
    rcases Nat.lt_or_ge (p + 1) n with h | h
    · exact .inl ⟨h, hk2 h⟩
    · exact .inr h
  clear hk2
  rcases hcase with ⟨hp2, hk2⟩ | hp2
  · have h2 : 2 ≤ n - p := by omega
    have HK2 := Lib.hid hk2
    clear hk2
    go_enter Try.func92, Try.ntmps92
    go_wp2_with (first | (go_at_call 89; (with_reducible refine (rest_cutN B (some ad) n c p 2 l _ _ (by exact (HS.out.alloc _).alloc _) (by exact reads_alloc (reads_alloc HR.out _) _) hp' hnc h2).mono ?_); rintro e w' ⟨A2, nq2, rfl, rfl, hsl, hcv, hcw, hcu, HX⟩) | (go_at_call 89; refine (rest_cut B (some ad) n c p 2 l _ (by exact (HS.out.alloc _).alloc _) (by exact reads_alloc (reads_alloc HR.out _) _) hp' hnc h2).mono ?_; rintro e w' ⟨A2, nq2, rfl, rfl, hsl, hcv, hcw, hcu, HX⟩) | (go_at_call 95; refine (two_any _ _).mono ?_; rw [HK2.out]; rintro e w' ⟨rfl, rfl⟩))
    generalize hW : (((w.alloc (.cells #[.int .i64 0, .int .i64 0, .int .i64 0, .string ⟨#[]⟩] 92)).alloc (.cells #[.int .i64 0, .int .i64 (p : Int), .int .i64 0, .string ⟨#[]⟩] 92)).drewN nq2).setCell ⟨w.heap.size + 1, 0, none⟩ (.int .i64 0) = W
    have hG : w.grownBy W none := by rw [← hW]; exact grown_new (grown_draw (grown_alloc (grown_alloc (grown_refl w none) _) _) _) (Nat.le_succ _) _ _
    have hs2 : RS W B (some ad) n c p := HS.out.grown hG (by simp)
    have hR : W.heap[w.heap.size]? = some (Obj.cells #[.int .i64 0, .int .i64 0, .int .i64 0, .string ⟨#[]⟩] 92 (0, 0)) := by rw [← hW]; exact far_row (heap_alloc2_old w _ _) (by omega)
    have hT : W.heap[w.heap.size + 1]? = some (Obj.cells #[.int .i64 0, .int .i64 (p : Int), .int .i64 0, .string ⟨#[]⟩] 92 (0, 0)) := by rw [← hW]; exact heap_setCell_same _ _ _ _ _ _ (heap_alloc2_new w _ _)
    clear hW
    have hcell2 := hG.cell hcell (by simp)
    have d0 := hs2.c0
    have d1 := hs2.c1
    have HS2 := Lib.hid hs2
    have HG := Lib.hid hG
    have HRR := Lib.hid hR
    have HTT := Lib.hid hT
    clear hG hs2 hR hT c0 c1 f1 hcell
    go_cut [5] (fun t w1 => t = .int .i64 1 ∧ Hid (RS w1 B (some ad) n c p) ∧ Hid (w1.heap[w.heap.size]? = some (Obj.cells #[.int .i64 0, .int .i64 0, .int .i64 0, .string ⟨#[]⟩] 92 (0, 0))) ∧ Hid (w1.heap[w.heap.size + 1]? = some (Obj.cells #[.int .i64 k, .int .i64 (p : Int), .int .i64 0, .string ⟨#[]⟩] 92 (0, 0))) ∧ Hid (w.grownBy w1 none))
    case first =>
      go_region_with (go_at_call 96; refine (one_any cv _).mono ?_; rw [HK.out]; rintro e w' ⟨rfl, hb1⟩; have t0 := row_cell (below_row (by exact HTT.out) hb1); have HT1 := Lib.hid (below_row (by exact HTT.out) hb1))
      all_goals
        go_wp2_with fail
        go_meet
        exact ⟨rfl, Lib.hid (((RS.below (by exact HS2.out) hb1)).far hne2 _ _), Lib.hid (far_row (below_row (by exact HRR.out) hb1) (by omega)), Lib.hid (heap_setCell_same _ _ _ _ _ _ HT1.out), Lib.hid (grown_new (grown_below (by exact grown_draw HG.out 1) hb1) (Nat.le_succ _) _ _)⟩
    case rest =>
      obtain ⟨rfl, HS3, HR3, HT3, HG3⟩ := hcut
      have t0 := row_cell HT3.out
      have r0 := row_cell HR3.out
      have e1 := HS3.out.c1
      have ef := HS3.out.f1
      have hgb := grown_any HG3.out (some B)
      by_cases hk0 : k = 0
      · subst hk0
        have hkb : ((0 : Int) == 0) = true := rfl
        go_wp2
        refine bodyPost_ret (v := .tuple #[.agg Tok.nil.cells, .int .i64 20]) (by exact tok_results Try.results92 rfl rfl (four_row HR3.out) rfl) rfl ⟨?_, ?_⟩
        · unfold SignPost
          rw [if_pos rfl]
          exact ⟨rfl, (((HS3.out.far hne1 _ _).far hne1 _ _).far hne1 _ _).far hne1 _ _⟩
        · exact grown_new (grown_new (grown_new (grown_new hgb (Nat.le_refl _) _ _) (Nat.le_refl _) _ _) (Nat.le_refl _) _ _) (Nat.le_refl _) _ _
      · have hkb : (k == 0) = false := by simpa using hk0
        have HK0 := Lib.hid hk0
        clear hk0
        go_wp2
        refine bodyPost_ret (v := .tuple #[.agg (Tok.mk k p 0 ⟨#[]⟩).cells, .int .i64 0]) (by exact tok_results Try.results92 rfl rfl (four_row (far_row HR3.out (Ne.symm hne1))) rfl) rfl ⟨?_, ?_⟩
        · unfold SignPost
          rw [if_neg HK0.out]
          exact ⟨rfl, ((((HS3.out.set (p + 1)).far hne1 _ _).far hne1 _ _).far hne1 _ _).far hne1 _ _⟩
        · exact grown_new (grown_new (grown_new (grown_new (grown_row hgb _ _) (Nat.le_refl _) _ _) (Nat.le_refl _) _ _) (Nat.le_refl _) _ _) (Nat.le_refl _) _ _
  · have h2 : 0 ≤ n - p := by omega
    go_enter Try.func92, Try.ntmps92
    go_wp2_with (first | (go_at_call 89; refine (rest_cut B (some ad) n c p 0 l _ (by exact (HS.out.alloc _).alloc _) (by exact reads_alloc (reads_alloc HR.out _) _) hp' hnc h2).mono ?_; rintro e w' ⟨A2, nq2, rfl, rfl, hsl, hcv, hcw, hcu, HX⟩))
    generalize hW : ((w.alloc (.cells #[.int .i64 0, .int .i64 0, .int .i64 0, .string ⟨#[]⟩] 92)).alloc (.cells #[.int .i64 0, .int .i64 (p : Int), .int .i64 0, .string ⟨#[]⟩] 92)).drewN nq2 = W
    have hG : w.grownBy W none := by rw [← hW]; exact grown_draw (grown_alloc (grown_alloc (grown_refl w none) _) _) _
    have hs2 : RS W B (some ad) n c p := HS.out.grown hG (by simp)
    have hR : W.heap[w.heap.size]? = some (Obj.cells #[.int .i64 0, .int .i64 0, .int .i64 0, .string ⟨#[]⟩] 92 (0, 0)) := by rw [← hW]; exact heap_alloc2_old w _ _
    have hT : W.heap[w.heap.size + 1]? = some (Obj.cells #[.int .i64 0, .int .i64 (p : Int), .int .i64 0, .string ⟨#[]⟩] 92 (0, 0)) := by rw [← hW]; exact heap_alloc2_new w _ _
    clear hW
    have hcell2 := hG.cell hcell (by simp)
    have d0 := hs2.c0
    have d1 := hs2.c1
    have HS2 := Lib.hid hs2
    have HG := Lib.hid hG
    have HRR := Lib.hid hR
    have HTT := Lib.hid hT
    clear hG hs2 hR hT c0 c1 f1 hcell
    go_cut [5] (fun t w1 => t = .int .i64 1 ∧ Hid (RS w1 B (some ad) n c p) ∧ Hid (w1.heap[w.heap.size]? = some (Obj.cells #[.int .i64 0, .int .i64 0, .int .i64 0, .string ⟨#[]⟩] 92 (0, 0))) ∧ Hid (w1.heap[w.heap.size + 1]? = some (Obj.cells #[.int .i64 k, .int .i64 (p : Int), .int .i64 0, .string ⟨#[]⟩] 92 (0, 0))) ∧ Hid (w.grownBy w1 none))
    case first =>
      go_region_with (go_at_call 96; refine (one_any cv _).mono ?_; rw [HK.out]; rintro e w' ⟨rfl, hb1⟩; have t0 := row_cell (below_row (by exact HTT.out) hb1); have HT1 := Lib.hid (below_row (by exact HTT.out) hb1))
      all_goals
        go_wp2_with fail
        go_meet
        exact ⟨rfl, Lib.hid (((RS.below (by exact HS2.out) hb1)).far hne2 _ _), Lib.hid (far_row (below_row (by exact HRR.out) hb1) (by omega)), Lib.hid (heap_setCell_same _ _ _ _ _ _ HT1.out), Lib.hid (grown_new (grown_below (by exact grown_draw HG.out 1) hb1) (Nat.le_succ _) _ _)⟩
    case rest =>
      obtain ⟨rfl, HS3, HR3, HT3, HG3⟩ := hcut
      have t0 := row_cell HT3.out
      have r0 := row_cell HR3.out
      have e1 := HS3.out.c1
      have ef := HS3.out.f1
      have hgb := grown_any HG3.out (some B)
      by_cases hk0 : k = 0
      · subst hk0
        have hkb : ((0 : Int) == 0) = true := rfl
        go_wp2
        refine bodyPost_ret (v := .tuple #[.agg Tok.nil.cells, .int .i64 20]) (by exact tok_results Try.results92 rfl rfl (four_row HR3.out) rfl) rfl ⟨?_, ?_⟩
        · unfold SignPost
          rw [if_pos rfl]
          exact ⟨rfl, (((HS3.out.far hne1 _ _).far hne1 _ _).far hne1 _ _).far hne1 _ _⟩
        · exact grown_new (grown_new (grown_new (grown_new hgb (Nat.le_refl _) _ _) (Nat.le_refl _) _ _) (Nat.le_refl _) _ _) (Nat.le_refl _) _ _
      · have hkb : (k == 0) = false := by simpa using hk0
        have HK0 := Lib.hid hk0
        clear hk0
        go_wp2
        refine bodyPost_ret (v := .tuple #[.agg (Tok.mk k p 0 ⟨#[]⟩).cells, .int .i64 0]) (by exact tok_results Try.results92 rfl rfl (four_row (far_row HR3.out (Ne.symm hne1))) rfl) rfl ⟨?_, ?_⟩
        · unfold SignPost
          rw [if_neg HK0.out]
          exact ⟨rfl, ((((HS3.out.set (p + 1)).far hne1 _ _).far hne1 _ _).far hne1 _ _).far hne1 _ _⟩
        · exact grown_new (grown_new (grown_new (grown_new (grown_row hgb _ _) (Nat.le_refl _) _ _) (Nat.le_refl _) _ _) (Nat.le_refl _) _ _) (Nat.le_refl _) _ _
end Go.Proofs.Ytgbeliajhccndaa.Lex
set_option linter.unusedVariables false
set_option linter.unusedSimpArgs false
namespace Go.Proofs.Ytgbeliajhccndaa.Lex
open Go.RowKit Go.Proofs.YtgbeliajhccndaaW.PrintWords Go.Proofs.YtgbeliajhccndaaW.PrintLast Go.Proofs.YtgbeliajhccndaaW.PrintMore

def nameAt (l : List Int) (p : Nat) : Tok × Int × Nat :=
  if 64 < strL true (l.drop p) then (Tok.nil, 21, p) else (nameTok p (strOfNums ((l.drop p).take (strL true (l.drop p)))), 0, p + strL true (l.drop p))
def numAns (p m : Nat) : Option Int → Tok × Int × Nat
  | none => (Tok.nil, 22, p)
  | some v => (⟨2, p, v, ⟨#[]⟩⟩, 0, p + m)
def numberAt (l : List Int) (p : Nat) : Tok × Int × Nat :=
  if 1 < strL false (l.drop p) ∧ rd l p = 48 then (Tok.nil, 22, p) else numAns p (strL false (l.drop p)) (numFrom 0 ((l.drop p).take (strL false (l.drop p))))
def signAt (l : List Int) (p : Nat) : Tok × Int × Nat :=
  if p + 1 < l.length ∧ twoK (strOfNums ((l.drop p).take 2)) ≠ 0 then (⟨twoK (strOfNums ((l.drop p).take 2)), p, 0, ⟨#[]⟩⟩, 0, p + 2)
  else if oneK (rd l p) = 0 then (Tok.nil, 20, p) else (⟨oneK (rd l p), p, 0, ⟨#[]⟩⟩, 0, p + 1)
def tokAt (l : List Int) (p : Nat) : Tok × Int × Nat :=
  if cls (rd l p) = 3 then nameAt l p else if cls (rd l p) = 2 then numberAt l p else if cls (rd l p) = 4 then signAt l p else (Tok.nil, 20, p)

theorem tri {α β γ : Type} {a x : α} {b y : β} {c z : γ} (h : (a, b, c) = (x, y, z)) : a = x ∧ b = y ∧ c = z := by cases h; exact ⟨rfl, rfl, rfl⟩
def TokPost (w w' : World) (B : Nat) (A : Option Addr) (n c : Nat) (x : Tok) (err : Int) (q : Nat) (e : Ending) : Prop :=
  e = .returned (.tuple #[.agg #[.int .i64 x.kind, .int .i64 x.at_, .int .i64 x.value, .string x.name], .int .i64 err]) ∧ RS w' B A n c q ∧ w.grownBy w' (some B)
section
variable (B : Nat) (A : Option Addr) (n c p : Nat) (l : List Int) (w : World) (x : Tok) (err : Int) (q : Nat) (hs : RS w B A n c p) (hp : p < n) (hnc : n ≤ c) (hr : ReadsInt w .u8 A n l) (hf : Far A B n) (hb : byteRange l)
include hs hp hnc hr hf hb
theorem name_tok (h : nameAt l p = (x, err, q)) : Calls Try.prog 90 #[.pointer (some ⟨B, 0, none⟩)] w fun e w' => TokPost w w' B A n c x err q e := by
  unfold nameAt at h
  by_cases h64 : 64 < strL true (l.drop p)
  · rw [if_pos h64] at h
    obtain ⟨rfl, rfl, rfl⟩ := tri h
    exact (name_no B A n c p _ l w hs (by omega) hnc hr hf hb rfl h64)
  · rw [if_neg h64] at h
    obtain ⟨rfl, rfl, rfl⟩ := tri h
    exact (name_yes B A n c p _ l w hs (by omega) hnc hr hf hb rfl (by omega))
theorem number_tok (hc : cls (rd l p) = 2) (h : numberAt l p = (x, err, q)) : Calls Try.prog 91 #[.pointer (some ⟨B, 0, none⟩)] w fun e w' => TokPost w w' B A n c x err q e := by
  unfold numberAt at h
  have hm0 : 0 < strL false (l.drop p) := by
    rw [strL_step false l p (by rw [hr.1]; exact hp)]
    simp [strOk, hc]
  by_cases h1 : 1 < strL false (l.drop p) ∧ rd l p = 48
  · rw [if_pos h1] at h
    obtain ⟨rfl, rfl, rfl⟩ := tri h
    exact (number_zero B A n c p _ l w hs (by omega) hnc hr hb rfl h1.1 h1.2).mono fun e w' ⟨⟨h1, h2⟩, h3⟩ => ⟨h1, h2, h3⟩
  · rw [if_neg h1] at h
    have hc := number_any B A n c p _ l w (numFrom 0 ((l.drop p).take (strL false (l.drop p)))) hs (by omega) hnc hr hf hb rfl hm0 (fun h2 h3 => h1 ⟨h2, h3⟩) (by unfold NumIs; rw [List.drop_zero])
    cases hN : numFrom 0 ((l.drop p).take (strL false (l.drop p))) with
    | none =>
      rw [hN] at h hc
      obtain ⟨rfl, rfl, rfl⟩ := tri h
      exact hc.mono fun e w' ⟨⟨h1, h2⟩, h3⟩ => ⟨h1, h2, h3⟩
    | some v =>
      rw [hN] at h hc
      obtain ⟨rfl, rfl, rfl⟩ := tri h
      exact hc.mono fun e w' ⟨⟨h1, h2⟩, h3⟩ => ⟨h1, h2, h3⟩
omit hf hb in
theorem sign_tok (h : signAt l p = (x, err, q)) : Calls Try.prog 92 #[.pointer (some ⟨B, 0, none⟩)] w fun e w' => TokPost w w' B A n c x err q e := by
  unfold signAt at h
  rw [hr.1] at h
  by_cases h1 : p + 1 < n ∧ twoK (strOfNums ((l.drop p).take 2)) ≠ 0
  · rw [if_pos h1] at h
    obtain ⟨rfl, rfl, rfl⟩ := tri h
    exact (sign_two B A n c p l w _ hs h1.1 hnc hr rfl h1.2).mono fun e w' ⟨⟨h1, h2⟩, h3⟩ => ⟨h1, h2, h3⟩
  · rw [if_neg h1] at h
    have hc := sign_one B A n c p l w _ _ hs hp hnc hr rfl (fun h2 => by
      rcases Decidable.em (twoK (strOfNums ((l.drop p).take 2)) = 0) with h3 | h3
      · exact h3
      · exact absurd ⟨h2, h3⟩ h1) rfl
    unfold SignPost at hc
    by_cases hk : oneK (rd l p) = 0
    · rw [if_pos hk] at h
      simp only [if_pos hk] at hc
      obtain ⟨rfl, rfl, rfl⟩ := tri h
      exact hc.mono fun e w' ⟨⟨h1, h2⟩, h3⟩ => ⟨h1, h2, h3⟩
    · rw [if_neg hk] at h
      simp only [if_neg hk] at hc
      obtain ⟨rfl, rfl, rfl⟩ := tri h
      exact hc.mono fun e w' ⟨⟨h1, h2⟩, h3⟩ => ⟨h1, h2, h3⟩

set_option maxHeartbeats 2000000 in
theorem token_any (h : tokAt l p = (x, err, q)) : Calls Try.prog 83 #[.pointer (some ⟨B, 0, none⟩)] w fun e w' => TokPost w w' B A n c x err q e := by
  obtain ⟨ad, hA, hcell⟩ := hr.at_ (p : Int) (by omega) (by omega)
  obtain rfl := hA
  rw [Int.toNat_natCast] at hcell
  have hbk := hb p
  have hn := hr.2.1
  unfold tokAt at h
  have c0 := hs.c0
  have c1 := hs.c1
  have hltB := hs.lt
  have hne1 : B ≠ w.heap.size := by omega
  have hlt2 : B < w.heap.size + 1 := by omega
  have HR := Lib.hid hr
  have HS := Lib.hid hs
  have HB := Lib.hid hb
  have HF := Lib.hid hf
  have HA := Lib.hid (World.block_lt_of_cell? w _ hcell)
  have hcell2 := (World.grownBy_alloc w (.cells #[.int .i64 0, .int .i64 0, .int .i64 0, .string ⟨#[]⟩] 92) none).cell hcell (by simp)
  by_cases h3 : cls (rd l p) = 3
  · rw [if_pos h3] at h
    have H := Lib.hid h
    clear h hr hs hb hf
    generalize rd l p = cv at *
    go_enter Try.func83, Try.ntmps83
    go_wp2
    go_quiet ((go_at_call 88; exact Calls.quiet_of_same ((class_any cv hbk.1 hbk.2 _).mono fun e w' h => ⟨h.1, h.2.symm⟩)))
    go_wp2_with (go_at_call 90; refine (name_tok B (some ad) n c p l _ x err q (by exact (HS.out.alloc _).drewN _) hp hnc (by exact reads_heap (reads_alloc HR.out _) rfl) HF.out HB.out H.out).mono ?_; rintro e w' ⟨rfl, hs1, hg1⟩; have hR1 := (hg1.block w.heap.size (by simp) (by simpa using Ne.symm hne1)).trans (heap_alloc_new w _); have t0 := row_cell hR1; have HS1 := Lib.hid hs1; have HG1 := Lib.hid hg1; have HR1 := Lib.hid hR1; clear hs1 hg1 hR1)
    refine bodyPost_ret (v := .tuple #[.agg #[.int .i64 x.kind, .int .i64 x.at_, .int .i64 x.value, .string x.name], .int .i64 err]) (by exact tok_results Try.results83 rfl rfl (four_row HR1.out) rfl) rfl ⟨rfl, ?_, ?_⟩
    · exact (((HS1.out.far hne1 _ _).far hne1 _ _).far hne1 _ _).far hne1 _ _
    · exact grown_new (grown_new (grown_new (grown_new ((grown_draw (grown_alloc (grown_refl w (some B)) _) _).trans HG1.out) (Nat.le_refl _) _ _) (Nat.le_refl _) _ _) (Nat.le_refl _) _ _) (Nat.le_refl _) _ _
  rw [if_neg h3] at h
  by_cases h2 : cls (rd l p) = 2
  · rw [if_pos h2] at h
    have H := Lib.hid h
    have HC := Lib.hid h2
    clear h hr hs hb hf h3
    generalize hcv : rd l p = cv at hcell hcell2 hbk h2
    clear hcv
    go_enter Try.func83, Try.ntmps83
    go_wp2
    go_quiet ((go_at_call 88; exact Calls.quiet_of_same ((class_any cv hbk.1 hbk.2 _).mono fun e w' h => ⟨h.1, h.2.symm⟩)))
    go_wp2_with (go_at_call 91; refine (number_tok B (some ad) n c p l _ x err q (by exact (HS.out.alloc _).drewN _) hp hnc (by exact reads_heap (reads_alloc HR.out _) rfl) HF.out HB.out HC.out H.out).mono ?_; rintro e w' ⟨rfl, hs1, hg1⟩; have hR1 := (hg1.block w.heap.size (by simp) (by simpa using Ne.symm hne1)).trans (heap_alloc_new w _); have t0 := row_cell hR1; have HS1 := Lib.hid hs1; have HG1 := Lib.hid hg1; have HR1 := Lib.hid hR1; clear hs1 hg1 hR1)
    refine bodyPost_ret (v := .tuple #[.agg #[.int .i64 x.kind, .int .i64 x.at_, .int .i64 x.value, .string x.name], .int .i64 err]) (by exact tok_results Try.results83 rfl rfl (four_row HR1.out) rfl) rfl ⟨rfl, ?_, ?_⟩
    · exact (((HS1.out.far hne1 _ _).far hne1 _ _).far hne1 _ _).far hne1 _ _
    · exact grown_new (grown_new (grown_new (grown_new ((grown_draw (grown_alloc (grown_refl w (some B)) _) _).trans HG1.out) (Nat.le_refl _) _ _) (Nat.le_refl _) _ _) (Nat.le_refl _) _ _) (Nat.le_refl _) _ _
  rw [if_neg h2] at h
  by_cases h4 : cls (rd l p) = 4
  · rw [if_pos h4] at h
    have H := Lib.hid h
    clear h hr hs hb hf h3 h2
    generalize hcv : rd l p = cv at *
    clear hcv
    go_enter Try.func83, Try.ntmps83
    go_wp2
    go_quiet ((go_at_call 88; exact Calls.quiet_of_same ((class_any cv hbk.1 hbk.2 _).mono fun e w' h => ⟨h.1, h.2.symm⟩)))
    go_wp2_with (go_at_call 92; refine (sign_tok B (some ad) n c p l _ x err q (by exact (HS.out.alloc _).drewN _) hp hnc (by exact reads_heap (reads_alloc HR.out _) rfl) H.out).mono ?_; rintro e w' ⟨rfl, hs1, hg1⟩; have hR1 := (hg1.block w.heap.size (by simp) (by simpa using Ne.symm hne1)).trans (heap_alloc_new w _); have t0 := row_cell hR1; have HS1 := Lib.hid hs1; have HG1 := Lib.hid hg1; have HR1 := Lib.hid hR1; clear hs1 hg1 hR1)
    refine bodyPost_ret (v := .tuple #[.agg #[.int .i64 x.kind, .int .i64 x.at_, .int .i64 x.value, .string x.name], .int .i64 err]) (by exact tok_results Try.results83 rfl rfl (four_row HR1.out) rfl) rfl ⟨rfl, ?_, ?_⟩
    · exact (((HS1.out.far hne1 _ _).far hne1 _ _).far hne1 _ _).far hne1 _ _
    · exact grown_new (grown_new (grown_new (grown_new ((grown_draw (grown_alloc (grown_refl w (some B)) _) _).trans HG1.out) (Nat.le_refl _) _ _) (Nat.le_refl _) _ _) (Nat.le_refl _) _ _) (Nat.le_refl _) _ _
  rw [if_neg h4] at h
  obtain ⟨rfl, rfl, rfl⟩ := tri h
  have k3 : (cls (rd l p) == 3) = false := by simpa using h3
  have k2 : (cls (rd l p) == 2) = false := by simpa using h2
  have k4 : (cls (rd l p) == 4) = false := by simpa using h4
  clear h hr hs hb hf h2 h3 h4
  generalize rd l p = cv at *
  go_enter Try.func83, Try.ntmps83
  go_wp2
  go_quiet ((go_at_call 88; exact Calls.quiet_of_same ((class_any cv hbk.1 hbk.2 _).mono fun e w' h => ⟨h.1, h.2.symm⟩)))
  go_wp2
  refine bodyPost_ret (v := .tuple #[.agg Tok.nil.cells, .int .i64 20]) (by exact tok_results Try.results83 rfl rfl (four_row (heap_alloc_new w _)) rfl) rfl ⟨rfl, ?_, ?_⟩
  · exact (((((HS.out.alloc _).drewN _).far hne1 _ _).far hne1 _ _).far hne1 _ _).far hne1 _ _
  · exact grown_new (grown_new (grown_new (grown_new (grown_draw (grown_alloc (grown_refl w (some B)) _) _) (Nat.le_refl _) _ _) (Nat.le_refl _) _ _) (Nat.le_refl _) _ _) (Nat.le_refl _) _ _
end
end Go.Proofs.Ytgbeliajhccndaa.Lex
set_option linter.unusedVariables false
set_option linter.unusedSimpArgs false
namespace Go.Proofs.Ytgbeliajhccndaa.Lex
open Go.RowKit Go.Proofs.YtgbeliajhccndaaW.PrintWords Go.Proofs.YtgbeliajhccndaaW.PrintLast Go.Proofs.YtgbeliajhccndaaW.PrintMore

def lexFrom (l : List Int) : Nat → Nat → List Tok → List Tok × Int × Int
  | 0, _, acc => (acc, 0, 0)
  | k + 1, p, acc =>
    if (skipL false (l.drop p)).2 = false then (acc, p + (skipL false (l.drop p)).1, 20)
    else if l.length ≤ p + (skipL false (l.drop p)).1 then (acc, 0, 0)
    else if (tokAt l (p + (skipL false (l.drop p)).1)).2.1 ≠ 0 then (acc, (tokAt l (p + (skipL false (l.drop p)).1)).2.2, (tokAt l (p + (skipL false (l.drop p)).1)).2.1)
    else lexFrom l k (tokAt l (p + (skipL false (l.drop p)).1)).2.2 (acc ++ [(tokAt l (p + (skipL false (l.drop p)).1)).1])
def lexAll (l : List Int) : List Tok × Int × Int := lexFrom l (l.length + 1) 0 []
def LexIs (l : List Int) (k p : Nat) (acc out : List Tok) (place err : Int) : Prop := lexFrom l k p acc = (out, place, err)
section
variable {l : List Int} {k p q t : Nat} {acc out : List Tok} {place err e : Int} {x : Tok} {ok : Bool}
theorem lex_bad (h : LexIs l (k + 1) p acc out place err) (hs : SkipTo l false p t false) : out = acc ∧ place = t ∧ err = 20 := by
  unfold LexIs lexFrom at h
  rw [if_pos hs.2] at h
  obtain ⟨h1, h2, h3⟩ := tri h
  exact ⟨h1.symm, by rw [← h2, ← hs.1]; simp, h3.symm⟩
theorem lex_end (h : LexIs l (k + 1) p acc out place err) (hs : SkipTo l false p t true) (ht : l.length ≤ t) : out = acc ∧ place = 0 ∧ err = 0 := by
  unfold LexIs lexFrom at h
  rw [if_neg (by rw [hs.2]; decide), if_pos (by rw [hs.1]; exact ht)] at h
  obtain ⟨h1, h2, h3⟩ := tri h
  exact ⟨h1.symm, h2.symm, h3.symm⟩
theorem lex_fault (h : LexIs l (k + 1) p acc out place err) (hs : SkipTo l false p t true) (ht : t < l.length) (hk : tokAt l t = (x, e, q)) (he : e ≠ 0) : out = acc ∧ place = q ∧ err = e := by
  unfold LexIs lexFrom at h
  rw [if_neg (by rw [hs.2]; decide), if_neg (by rw [hs.1]; omega), hs.1, hk, if_pos he] at h
  obtain ⟨h1, h2, h3⟩ := tri h
  exact ⟨h1.symm, h2.symm, h3.symm⟩
theorem lex_next (h : LexIs l (k + 1) p acc out place err) (hs : SkipTo l false p t true) (ht : t < l.length) (hk : tokAt l t = (x, 0, q)) : LexIs l k q (acc ++ [x]) out place err := by
  unfold LexIs at h ⊢
  rw [lexFrom, if_neg (by rw [hs.2]; decide), if_neg (by rw [hs.1]; omega), hs.1, hk, if_neg (by simp)] at h
  exact h
theorem tokAt_ok (hp : p < l.length) (h : tokAt l p = (x, 0, q)) : p < q ∧ q ≤ l.length := by
  have h3 : ∀ b, strL b (l.drop p) ≤ l.length - p := fun b => by have := strL_le b (l.drop p); rwa [List.length_drop] at this
  unfold tokAt at h
  split at h
  · rename_i hc
    unfold nameAt at h
    split at h
    · obtain ⟨_, h2, _⟩ := tri h; simp at h2
    · obtain ⟨_, _, rfl⟩ := tri h
      have := h3 true
      have h4 : 0 < strL true (l.drop p) := by rw [strL_step true l p hp]; simp [strOk, hc]
      omega
  · split at h
    · rename_i hc
      unfold numberAt at h
      split at h
      · obtain ⟨_, h2, _⟩ := tri h; simp at h2
      · cases hN : numFrom 0 ((l.drop p).take (strL false (l.drop p))) with
        | none => rw [hN] at h; obtain ⟨_, h2, _⟩ := tri h; simp at h2
        | some v =>
          rw [hN] at h
          obtain ⟨_, _, rfl⟩ := tri h
          have := h3 false
          have h4 : 0 < strL false (l.drop p) := by rw [strL_step false l p hp]; simp [strOk, hc]
          omega
    · split at h
      · unfold signAt at h
        split at h
        · rename_i hc
          obtain ⟨_, _, rfl⟩ := tri h
          omega
        · split at h
          · obtain ⟨_, h2, _⟩ := tri h; simp at h2
          · obtain ⟨_, _, rfl⟩ := tri h
            omega
      · obtain ⟨_, h2, _⟩ := tri h; simp at h2
theorem skip_to (l : List Int) (p : Nat) (hp : p ≤ l.length) : ∃ t ok, SkipTo l false p t ok ∧ p ≤ t ∧ t ≤ l.length := by
  refine ⟨_, _, ⟨rfl, rfl⟩, by omega, ?_⟩
  have := skipL_le false (l.drop p)
  rw [List.length_drop] at this
  omega
end

def kTok : Kd Tok := Kd.iso (Kd.pair (Kd.int .i64) (Kd.pair (Kd.int .i64) (Kd.pair (Kd.int .i64) Kd.string))) (fun x : Tok => (x.kind, x.at_, x.value, x.name))
theorem kTok_mkM (w : World) (base : Nat) (ok : Nat → Prop) (x : Tok) : kTok.M w base ok x [.int .i64 x.kind, .int .i64 x.at_, .int .i64 x.value, .string x.name] := ⟨[.int .i64 x.kind], [.int .i64 x.at_, .int .i64 x.value, .string x.name], rfl, rfl, ⟨[.int .i64 x.at_], [.int .i64 x.value, .string x.name], rfl, rfl, ⟨[.int .i64 x.value], [.string x.name], rfl, rfl, rfl⟩⟩⟩
theorem kTok_open {w : World} {x : Tok} {cs : List Value} (h : kTok.K w x cs) : cs = [.int .i64 x.kind, .int .i64 x.at_, .int .i64 x.value, .string x.name] := by
  obtain ⟨_, _, rfl, rfl, ⟨_, _, rfl, rfl, ⟨_, _, rfl, rfl, rfl⟩⟩⟩ := h
  exact rfl
theorem info33 : (Try.prog.info? 92).map (fun i => (i.zero, i.size, i.bytes)) = some (some (.agg #[.int .i64 0, .int .i64 0, .int .i64 0, .string ⟨#[]⟩]), 4, 40) := by kernel_rfl
end Go.Proofs.Ytgbeliajhccndaa.Lex
set_option linter.unusedVariables false
set_option linter.unusedSimpArgs false
namespace Go.Proofs.Ytgbeliajhccndaa.Lex
open Go.RowKit Go.Proofs.YtgbeliajhccndaaW.PrintWords Go.Proofs.YtgbeliajhccndaaW.PrintLast Go.Proofs.YtgbeliajhccndaaW.PrintMore

def Stop (p : Prop) : Prop := p
theorem stop_intro {p : Prop} (h : Stop p) : p := h
theorem below_row_grown {w w1 w2 : World} {B : Nat} (h : Below w.heap.size w w1) (hB : w.heap.size ≤ B) (hg : w1.grownBy w2 (some B)) : Below w.heap.size w w2 :=
  h.grown hg h.size (fun k hk => by cases hk; exact hB)
theorem own_row_grown {w1 w2 : World} {B base : Nat} {v : Value} {xs : List Tok} (h : kTok.R 92 w1 base (fun k => k ≠ B) v xs) (hg : w1.grownBy w2 (some B)) : kTok.R 92 w2 base (fun k => k ≠ B) v xs :=
  Kd.R_grown h hg (fun k hk he => hk (Option.some.inj he))
theorem own_row_alloc {w1 : World} {base : Nat} {ok : Nat → Prop} {v : Value} {xs : List Tok} (h : kTok.R 92 w1 base ok v xs) (o : Obj) : kTok.R 92 (w1.alloc o) base ok v xs :=
  Kd.R_below h ((Below.refl _ _).alloc (Nat.le_refl _) o)

set_option maxHeartbeats 4000000 in
theorem tokens_any (A : Option Addr) (n c : Nat) (l : List Int) (w : World) (out : List Tok) (place err : Int) (hnc : n ≤ c) (hr : ReadsInt w .u8 A n l) (hb : byteRange l) (hn : n ≤ 3000000000000) (h : lexAll l = (out, place, err)) :
    Calls Try.prog 59 #[.slice A n c] w fun e w' => ∃ v, e = .returned (.tuple #[v, .int .i64 place, .int .i64 err]) ∧ kTok.R 92 w' w.heap.size (fun _ => True) v out ∧ Below w.heap.size w w' := by
  have hll := hr.1
  have hL : LexIs l (n + 1) 0 [] out place err := by unfold LexIs; rw [← hll]; exact h
  have hf : Far A w.heap.size n := by
    intro h0 ad hA
    obtain ⟨ad', hA', hc⟩ := hr.2.2 h0
    obtain rfl := Option.some.inj (hA.symm.trans hA')
    have := World.block_lt_of_cell? w _ (hc 0 h0)
    rw [show ad.add 0 = ad by unfold Addr.add; simp] at this
    omega
  have HR := Lib.hid hr
  have HB := Lib.hid hb
  have HF := Lib.hid hf
  have HL := Lib.hid hL
  have HLL := Lib.hid hll
  clear hr hb hf hL h hll
  go_enter Try.func59, Try.ntmps59
  go_wp2
  go_loopg [6] (n + 1) (fun g v wr => ∃ (p : Nat) (xs : List Tok), p ≤ n ∧ n < p + g ∧ xs.length ≤ p ∧ Hid (RS wr w.heap.size A n c p) ∧ Hid (kTok.R 92 wr w.heap.size (fun k => k ≠ w.heap.size) v xs) ∧ Hid (Below w.heap.size w wr) ∧ Hid (LexIs l g p xs out place err))
  case atStart => exact ⟨0, [], Nat.zero_le _, by omega, by simp, Lib.hid (heap_alloc_new w _), Lib.hid (Kd.R_nil _ _ _ _ _), Lib.hid ((Below.refl _ _).alloc (Nat.le_refl _) _), HL⟩
  case round =>
    obtain ⟨p, xs, hp, hpg, hxs, HS1, HO1, HB1, HL1⟩ := hrel
    obtain ⟨g, rfl⟩ : ∃ g, gk = g + 1 := ⟨gk - 1, by omega⟩
    obtain ⟨t, ok, hsk, hpt, htl⟩ := skip_to l p (by rw [HLL.out]; exact hp)
    rw [HLL.out] at htl
    have HR1 := Lib.hid (HR.out.below HB1.out)
    have HSK := Lib.hid hsk
    clear hsk
    cases ok
    · have HBD := Lib.hid (lex_bad HL1.out HSK.out)
      go_wp2_with (go_at_call 82; refine (skip_any w.heap.size A n c p t false l _ (by exact HS1.out) hp hnc (by exact HR1.out) HF.out HB.out HSK.out).mono ?_; rintro e w' ⟨rfl, hs2, hg2⟩; have d1 := hs2.c1; have HG2 := Lib.hid hg2; clear hs2 hg2)
      go_quiet (fail)
      go_wp2
      go_ret3
      obtain ⟨f1, f2, f3⟩ := HBD.out
      rw [f1, f2, f3]
      exact ⟨_, rfl, Kd.R_mono (Kd.R_below (own_row_grown HO1.out HG2.out) (by exact (Drawn0.below ⟨_, rfl⟩))) (fun _ _ => trivial), pw_below_drewN (below_row_grown HB1.out (Nat.le_refl _) HG2.out) _⟩
    · by_cases hlt : t < n
      · obtain ⟨⟨x, e1, q⟩, hk⟩ : ∃ r, tokAt l t = r := ⟨_, rfl⟩
        have HK := Lib.hid hk
        clear hk
        by_cases he : e1 = 0
        · subst he
          go_wp2_with (first | (go_at_call 82; refine (skip_any w.heap.size A n c p t true l _ (by exact HS1.out) hp hnc (by exact HR1.out) HF.out HB.out HSK.out).mono ?_; rintro e w' ⟨rfl, hs2, hg2⟩; have d1 := hs2.c1; have HS2 := Lib.hid hs2; have HG2 := Lib.hid hg2; have HR2 := Lib.hid (reads_grown HR1.out hg2 HF.out); clear hs2 hg2) | (go_at_call 83; refine (token_any w.heap.size A n c t l _ x 0 q (by exact HS2.out) hlt hnc (by exact HR2.out) HF.out HB.out HK.out).mono ?_; rintro e w' ⟨rfl, hs3, hg3⟩; have d2 := hs3.c1; have HS3 := Lib.hid hs3; have HB3 := Lib.hid (below_row_grown (below_row_grown HB1.out (Nat.le_refl _) HG2.out) (Nat.le_refl _) hg3); have HO3 := Lib.hid (own_row_grown (own_row_grown HO1.out HG2.out) hg3); have hsz := hg3.size; clear hs3 hg3) | (at_builtin; refine stop_intro ?_))
          unfold Stop
          refine Kd.R_append kTok (w0 := w) w.heap.size rfl (.tmp 41) (.tmp 43) 88 92 (.agg #[.int .i64 0, .int .i64 0, .int .i64 0, .string ⟨#[]⟩]) 40 rfl Try.underlying88 info33 rfl (by decide) (by decide) _ xs x [.int .i64 x.kind, .int .i64 x.at_, .int .i64 x.value, .string x.name] (fun k => k ≠ w.heap.size) (fun _ => False) rfl (congrArg (fun n => Value.slice (some ⟨n, 0, none⟩) 1 1) (size_alloc' _ _).symm) (kTok_mkM _ _ _ _) (fun _ h => h.elim) ?fresh (own_row_alloc HO3.out _) (HB3.out.alloc HB3.out.size _) ?base ?len ?_
          case fresh => intro k hk he; rw [size_alloc'] at hk; have := HB3.out.size; omega
          case base => rw [size_alloc']; have := HB3.out.size; omega
          case len => omega
          intro v1 w2 hO4 hB4 hg4 hat4
          have HO4 := Lib.hid hO4
          have HB4 := Lib.hid hB4
          have HS4 := Lib.hid ((HS3.out.alloc (.cells #[.int .i64 x.kind, .int .i64 x.at_, .int .i64 x.value, .string x.name] 92)).grown hg4 (fun he => HO3.out.1 _ he.symm rfl))
          clear hO4 hB4 hg4 hat4
          have HN := Lib.hid (lex_next HL1.out HSK.out (by rw [HLL.out]; exact hlt) HK.out)
          have hq := tokAt_ok (by rw [HLL.out]; exact hlt) HK.out
          rw [HLL.out] at hq
          go_wp2
          go_roundg g
          case measure => omega
          case rel => exact ⟨q, xs ++ [x], hq.2, by omega, by simp; omega, HS4, HO4, HB4, HN⟩
        · have heb : (e1 != 0) = true := by simpa using he
          have hf := lex_fault HL1.out HSK.out (by rw [HLL.out]; exact hlt) HK.out he
          have HFT := Lib.hid hf
          clear hf he
          go_wp2_with (first | (go_at_call 82; refine (skip_any w.heap.size A n c p t true l _ (by exact HS1.out) hp hnc (by exact HR1.out) HF.out HB.out HSK.out).mono ?_; rintro e w' ⟨rfl, hs2, hg2⟩; have d1 := hs2.c1; have HS2 := Lib.hid hs2; have HG2 := Lib.hid hg2; have HR2 := Lib.hid (reads_grown HR1.out hg2 HF.out); clear hs2 hg2) | (go_at_call 83; refine (token_any w.heap.size A n c t l _ x e1 q (by exact HS2.out) hlt hnc (by exact HR2.out) HF.out HB.out HK.out).mono ?_; rintro e w' ⟨rfl, hs3, hg3⟩; have d2 := hs3.c1; have d2a := (hs3.alloc (.cells #[.int .i64 x.kind, .int .i64 x.at_, .int .i64 x.value, .string x.name] 92)).c1; have HS3 := Lib.hid hs3; have HB3 := Lib.hid (below_row_grown (below_row_grown HB1.out (Nat.le_refl _) HG2.out) (Nat.le_refl _) hg3); have HO3 := Lib.hid (own_row_grown (own_row_grown HO1.out HG2.out) hg3); have hsz := hg3.size; clear hs3 hg3))
          go_quiet (fail)
          go_wp2
          go_ret3
          obtain ⟨f1, f2, f3⟩ := HFT.out
          rw [f1, f2, f3]
          exact ⟨_, rfl, Kd.R_mono (Kd.R_below (own_row_alloc HO3.out _) (by exact (Drawn0.below ⟨_, rfl⟩))) (fun _ _ => trivial), pw_below_drewN (HB3.out.alloc HB3.out.size _) _⟩
      · obtain rfl : t = n := by omega
        have HE := Lib.hid (lex_end HL1.out HSK.out (by rw [HLL.out]; omega))
        go_wp2_with (go_at_call 82; refine (skip_any w.heap.size A t c p t true l _ (by exact HS1.out) hp hnc (by exact HR1.out) HF.out HB.out HSK.out).mono ?_; rintro e w' ⟨rfl, hs2, hg2⟩; have d1 := hs2.c1; have HG2 := Lib.hid hg2; clear hs2 hg2)
        go_ret3
        obtain ⟨f1, f2, f3⟩ := HE.out
        rw [f1, f2, f3]
        exact ⟨_, rfl, Kd.R_mono (own_row_grown HO1.out HG2.out) (fun _ _ => trivial), below_row_grown HB1.out (Nat.le_refl _) HG2.out⟩
end Go.Proofs.Ytgbeliajhccndaa.Lex
