/- The reference's blank (quernref2), by the same plain functions (chapter 2). -/
import Derived.Test.YteenkeccpfgffaaN
set_option linter.unusedVariables false
set_option linter.unusedSimpArgs false
namespace Go.Proofs.Yteenkeccpfgffaa
open Go.RowKit Go.Proofs.YteenkeccpfgffaaW.PrintWords Go.Proofs.YteenkeccpfgffaaW.PrintLast Go.Proofs.YteenkeccpfgffaaW.PrintMore

theorem skip_com_end {l : List Int} {ok : Bool} {q t : Nat} (h : SkipTo l true q t ok) (hq : l.length ≤ q) : SkipTo l false q t ok := by
  unfold SkipTo at h ⊢
  rw [List.drop_eq_nil_of_le hq] at h ⊢
  exact h
theorem skip_com_nl {l : List Int} {ok : Bool} {q t : Nat} (h : SkipTo l true q t ok) (hq : q < l.length) (hc : rd l q = 10) : SkipTo l false q t ok := by
  have h1 := skip_com h hq hc (by decide)
  have hd : SkipTo l ((10 : Int) != 10) (q + 1) t ok ↔ SkipTo l false q t ok := by
    unfold SkipTo
    rw [drop_rd l q hq, hc]
    rw [show ((10 : Int) != 10) = false by decide]
    simp only [skipL]
    rw [if_pos (by decide)]
    constructor <;> intro h <;> exact ⟨by rw [← h.1]; simp; omega, h.2⟩
  exact hd.1 h1
theorem skip_com_back {l : List Int} {ok : Bool} {q t : Nat} {c : Int} (h : SkipTo l true (q + 1) t ok) (hq : q < l.length) (hc : rd l q = c) (h0 : cls c ≠ 0) (h10 : c ≠ 10) : SkipTo l true q t ok := by
  unfold SkipTo at h ⊢
  rw [drop_rd l q hq, hc, skipL, if_neg h0]
  have e : (c != 10) = true := by simpa using h10
  rw [e]
  exact ⟨by rw [← h.1]; simp; omega, h.2⟩

theorem add_succ (ad : Addr) (q : Nat) : ad.add (q + 1) = ⟨ad.block, ad.off + (q + 1), none⟩ := by unfold Addr.add; simp
set_option maxRecDepth 100000 in
set_option maxHeartbeats 4000000 in
theorem blank_any (A : Option Addr) (n c p t : Nat) (ok : Bool) (l : List Int) (w : World) (hr : ReadsInt w .u8 A n l) (hb : byteRange l) (hp : p ≤ n) (hsk : SkipTo l false p t ok) :
    Calls Try.prog 29 #[.slice A n c, .int .i64 (p : Int)] w fun e w' => e = .returned (.tuple #[.int .i64 (t : Int), .bool ok]) ∧ w = w' := by
  have hn := hr.2.1
  have hlen := Lib.hid hr.1
  have HR := Lib.hid hr
  have HB := Lib.hid hb
  have HSK := Lib.hid hsk
  clear hr hb hsk
  go_enter Try.func29, Try.ntmps29
  go_wp2
  go_loop [1] (fun i => ∃ q : Nat, q ≤ n ∧ i = .int .i64 q ∧ Hid (SkipTo l false q t ok)) (fun i => n - (intOf i).toNat)
  case atStart => exact ⟨p, hp, rfl, HSK⟩
  case round =>
    obtain ⟨q, hq, rfl, HQ⟩ := hrel
    by_cases hlt : q < n
    · obtain ⟨ad, hA, hcell⟩ := HR.out.at_ (q : Int) (by omega) (by omega)
      obtain rfl := hA
      rw [Int.toNat_natCast] at hcell
      have hbk := HB.out q
      generalize hcv : rd l q = cv at *
      have HCV := Lib.hid hcv
      clear hcv
      by_cases h1 : cls cv = 1
      · have HN := Lib.hid (skip_blank HQ.out (by rw [hlen.out]; exact hlt) HCV.out h1)
        have hb4 := (cls1 cv).1 h1
        clear h1
        rcases hb4 with rfl | rfl | rfl | rfl
        all_goals
          go_wp2
          go_round
          case rel => exact ⟨q + 1, by omega, by go_num, HN⟩
          case measure => simp [intOf]; omega
      · have h9 : (cv == 9) = false := by have := mt (cls1 cv).2 h1; simp; omega
        have h10 : (cv == 10) = false := by have := mt (cls1 cv).2 h1; simp; omega
        have h13 : (cv == 13) = false := by have := mt (cls1 cv).2 h1; simp; omega
        have h32 : (cv == 32) = false := by have := mt (cls1 cv).2 h1; simp; omega
        have H1 := Lib.hid h1
        by_cases h47 : cv = 47
        · subst h47
          clear h9 h10 h13 h32 h1
          by_cases h3 : q + 1 < n
          · obtain ⟨ad2, hA2, hcell2⟩ := HR.out.at_ ((q + 1 : Nat) : Int) (by omega) (by omega)
            obtain rfl := Option.some.inj hA2
            rw [Int.toNat_natCast, add_succ] at hcell2
            generalize hdv : rd l (q + 1 : Nat) = dv at *
            have HDV := Lib.hid hdv
            clear hdv
            by_cases h4 : dv = 47
            · subst h4
              have HN := Lib.hid (skip_com_back (skip_open HQ.out (by rw [hlen.out]; exact h3) HCV.out H1.out rfl HDV.out) (by rw [hlen.out]; exact hlt) HCV.out (by decide) (by decide))
              go_wp2
              clear hcell hcell2
              go_loop [1] (fun i => ∃ k : Nat, q ≤ k ∧ k ≤ n ∧ i = .int .i64 k ∧ Hid (SkipTo l true k t ok)) (fun i => n - (intOf i).toNat)
              case atStart => exact ⟨q, by omega, by omega, rfl, HN⟩
              case round =>
                obtain ⟨k, hqk, hk, rfl, HK⟩ := hrel
                by_cases hlk : k < n
                · obtain ⟨ad3, hA3, hcell3⟩ := HR.out.at_ (k : Int) (by omega) (by omega)
                  obtain rfl := Option.some.inj hA3
                  rw [Int.toNat_natCast] at hcell3
                  have hkq : rd l k = 10 → q < k := fun h => by
                    rcases Nat.lt_or_ge q k with h5 | h5
                    · exact h5
                    · obtain rfl : k = q := by omega
                      rw [HCV.out] at h
                      exact absurd h (by decide)
                  generalize hev : rd l k = ev at *
                  have HEV := Lib.hid hev
                  clear hev
                  by_cases he10 : ev = 10
                  · subst he10
                    have hkq2 := hkq rfl
                    have HNL := Lib.hid (skip_com_nl HK.out (by rw [hlen.out]; exact hlk) HEV.out)
                    clear hkq
                    go_wp2
                    go_round
                    case rel => exact ⟨k, by omega, rfl, HNL⟩
                    case measure => simp [intOf]; omega
                  · have he10b : (ev != 10) = true := by simpa using he10
                    clear hkq
                    by_cases h0 : cls ev = 0
                    · obtain ⟨ht, ho⟩ := skip_bad HK.out (by rw [hlen.out]; exact hlk) HEV.out h0
                      have HT := Lib.hid ht
                      have HO := Lib.hid ho
                      have h0b := (cls0 ev).1 h0
                      have f9 : (ev != 9) = true := by simpa using h0b.1
                      have f13 : (ev != 13) = true := by simpa using h0b.2.2.1
                      have hor := h0b.2.2.2
                      clear h0 h0b he10 ht ho
                      rcases hor with h32 | h126
                      · go_wp2
                        all_goals
                          go_ret2
                          exact ⟨by rw [HT.out, HO.out]; rfl, rfl⟩
                      · have h32 : ¬ ev < 32 := by omega
                        go_wp2
                        all_goals
                          go_ret2
                          exact ⟨by rw [HT.out, HO.out]; rfl, rfl⟩
                    · have HNX := skip_com HK.out (by rw [hlen.out]; exact hlk) HEV.out h0
                      rw [he10b] at HNX
                      have HNX := Lib.hid HNX
                      have hor : ev = 9 ∨ ev = 13 ∨ (32 ≤ ev ∧ ev ≤ 126) := by
                        have := mt (cls0 ev).2 h0
                        omega
                      clear h0 he10
                      rcases hor with rfl | rfl | ⟨h5, h6⟩
                      · go_wp2
                        go_round
                        case rel => exact ⟨k + 1, by omega, by omega, by go_num, HNX⟩
                        case measure => simp [intOf]; omega
                      · go_wp2
                        go_round
                        case rel => exact ⟨k + 1, by omega, by omega, by go_num, HNX⟩
                        case measure => simp [intOf]; omega
                      · have f9 : (ev != 9) = true := by simp; omega
                        have f13 : (ev != 13) = true := by simp; omega
                        go_wp2
                        go_round
                        case rel => exact ⟨k + 1, by omega, by omega, by go_num, HNX⟩
                        case measure => simp [intOf]; omega
                · obtain rfl : k = n := by omega
                  have HNL := Lib.hid (skip_com_end HK.out (by rw [hlen.out]; omega))
                  go_wp2
                  go_round
                  case rel => exact ⟨k, by omega, rfl, HNL⟩
                  case measure => simp [intOf]; omega
            · have h4b : (dv != 47) = true := by simpa using h4
              obtain ⟨rfl, rfl⟩ := skip_stop HQ.out (by rw [hlen.out]; exact hlt) HCV.out H1.out (fun h => h4 (HDV.out.symm.trans h.2.2))
              go_wp2
              go_ret2
              exact ⟨rfl, rfl⟩
          · obtain ⟨rfl, rfl⟩ := skip_stop HQ.out (by rw [hlen.out]; exact hlt) HCV.out H1.out (fun h => h3 (by have := hlen.out; omega))
            obtain rfl : n = t + 1 := by omega
            go_wp2
            go_ret2
            exact ⟨rfl, rfl⟩
        · have h47b : (cv != 47) = true := by simpa using h47
          obtain ⟨rfl, rfl⟩ := skip_stop HQ.out (by rw [hlen.out]; exact hlt) HCV.out H1.out (fun h => h47 h.1)
          clear h47
          go_wp2
          go_ret2
          exact ⟨rfl, rfl⟩
    · obtain ⟨rfl, rfl⟩ := skip_end HQ.out (by rw [hlen.out]; omega)
      go_wp2
      go_ret2
      exact ⟨rfl, rfl⟩
end Go.Proofs.Yteenkeccpfgffaa
