/- Lemmas of this claim (PP7). -/
import Derived.Test.YtgbeliajhccndaaKF
namespace Go.Proofs.Ytgbeliajhccndaa.PP
open Go.RowKit Go.Proofs.YtgbeliajhccndaaW.PrintWords Go.Proofs.YtgbeliajhccndaaW.PrintLast Go.Proofs.YtgbeliajhccndaaW.PrintMore
attribute [local go_sem] max2_int min2_int max_two min_two max_three min_three max_four min_four   
set_option linter.unusedVariables false
set_option linter.unusedSimpArgs false
mutual
def quernref9_IsName.l0:Nat → ByteArray → List ByteArray → Int → Option (Bool)
 | 0,_,_,_=>none
 | k + 1,x0,x3,x4=>if x4 < (x3.length:Int) then (if 0 ≤ x4 then (if x0.toList = (rdOf ByteArray.empty x3 x4).toList then (some false) else (quernref9_IsName.l0 k x0 x3 (wrap64 (x4 + 1)))) else (none)) else (quernref9_IsName.l1 k x0 0)
def quernref9_IsName.l1:Nat → ByteArray → Int → Option (Bool)
 | 0,_,_=>none
 | k + 1,x0,x5=>if x5 < (x0.size:Int) then (if 0 ≤ x5 then (if (bt x0 x5) ≥ 97 then (if (bt x0 x5) ≤ 122 then (quernref9_IsName.l1 k x0 (wrap64 (x5 + 1))) else (if (bt x0 x5) ≥ 65 then (if (bt x0 x5) ≤ 90 then (quernref9_IsName.l1 k x0 (wrap64 (x5 + 1))) else (if ((bt x0 x5) = 95) then (quernref9_IsName.l1 k x0 (wrap64 (x5 + 1))) else (if x5 = 0 then (some false) else (if (bt x0 x5) < 48 then (some false) else (if (bt x0 x5) > 57 then (some false) else (quernref9_IsName.l1 k x0 (wrap64 (x5 + 1)))))))) else (if ((bt x0 x5) = 95) then (quernref9_IsName.l1 k x0 (wrap64 (x5 + 1))) else (if x5 = 0 then (some false) else (if (bt x0 x5) < 48 then (some false) else (if (bt x0 x5) > 57 then (some false) else (quernref9_IsName.l1 k x0 (wrap64 (x5 + 1))))))))) else (if (bt x0 x5) ≥ 65 then (if (bt x0 x5) ≤ 90 then (quernref9_IsName.l1 k x0 (wrap64 (x5 + 1))) else (if ((bt x0 x5) = 95) then (quernref9_IsName.l1 k x0 (wrap64 (x5 + 1))) else (if x5 = 0 then (some false) else (if (bt x0 x5) < 48 then (some false) else (if (bt x0 x5) > 57 then (some false) else (quernref9_IsName.l1 k x0 (wrap64 (x5 + 1)))))))) else (if ((bt x0 x5) = 95) then (quernref9_IsName.l1 k x0 (wrap64 (x5 + 1))) else (if x5 = 0 then (some false) else (if (bt x0 x5) < 48 then (some false) else (if (bt x0 x5) > 57 then (some false) else (quernref9_IsName.l1 k x0 (wrap64 (x5 + 1))))))))) else (none)) else (if (x0.size:Int) ≥ 1 then (some (decide ((x0.size:Int) ≤ 64))) else (some false))
end
def quernref9_IsName.f (k:Nat) (a0:ByteArray):Option (Bool):=quernref9_IsName.l0 k a0 (([(⟨#[102,117,110,99]⟩:ByteArray),(⟨#[118,97,114]⟩:ByteArray),(⟨#[105,102]⟩:ByteArray),(⟨#[101,108,115,101]⟩:ByteArray),(⟨#[102,111,114]⟩:ByteArray),(⟨#[114,101,116,117,114,110]⟩:ByteArray),(⟨#[98,114,101,97,107]⟩:ByteArray),(⟨#[99,111,110,116,105,110,117,101]⟩:ByteArray),(⟨#[112,114,105,110,116]⟩:ByteArray),(⟨#[112,97,110,105,99]⟩:ByteArray),(⟨#[105,110,112,117,116]⟩:ByteArray),(⟨#[108,101,110]⟩:ByteArray),(⟨#[109,97,107,101]⟩:ByteArray),(⟨#[105,110,116]⟩:ByteArray),(⟨#[98,111,111,108]⟩:ByteArray),(⟨#[116,114,117,101]⟩:ByteArray),(⟨#[102,97,108,115,101]⟩:ByteArray),(⟨#[110,105,108]⟩:ByteArray)]:List ByteArray)) 0
set_option maxHeartbeats 8000000 in
set_option maxRecDepth 100000 in
theorem quernref9_IsName.calls (k:Nat) (a0:ByteArray) (r:Bool) (w:World) (h:quernref9_IsName.f k a0 = some r) :
 Calls Try.prog 50 #[.string a0] w fun e w'=>e = .returned (.bool r) ∧ Below w.heap.size w w':=by
 have HB:=Aside0.mk (Below.refl w.heap.size w)
 have H:(quernref9_IsName.l0 k a0 (([(⟨#[102,117,110,99]⟩:ByteArray),(⟨#[118,97,114]⟩:ByteArray),(⟨#[105,102]⟩:ByteArray),(⟨#[101,108,115,101]⟩:ByteArray),(⟨#[102,111,114]⟩:ByteArray),(⟨#[114,101,116,117,114,110]⟩:ByteArray),(⟨#[98,114,101,97,107]⟩:ByteArray),(⟨#[99,111,110,116,105,110,117,101]⟩:ByteArray),(⟨#[112,114,105,110,116]⟩:ByteArray),(⟨#[112,97,110,105,99]⟩:ByteArray),(⟨#[105,110,112,117,116]⟩:ByteArray),(⟨#[108,101,110]⟩:ByteArray),(⟨#[109,97,107,101]⟩:ByteArray),(⟨#[105,110,116]⟩:ByteArray),(⟨#[98,111,111,108]⟩:ByteArray),(⟨#[116,114,117,101]⟩:ByteArray),(⟨#[102,97,108,115,101]⟩:ByteArray),(⟨#[110,105,108]⟩:ByteArray)]:List ByteArray)) 0) = some r:=h
 clear h
 obtain ⟨y255,hy255⟩:∃ y_:List ByteArray,y_ = (([(⟨#[102,117,110,99]⟩:ByteArray),(⟨#[118,97,114]⟩:ByteArray),(⟨#[105,102]⟩:ByteArray),(⟨#[101,108,115,101]⟩:ByteArray),(⟨#[102,111,114]⟩:ByteArray),(⟨#[114,101,116,117,114,110]⟩:ByteArray),(⟨#[98,114,101,97,107]⟩:ByteArray),(⟨#[99,111,110,116,105,110,117,101]⟩:ByteArray),(⟨#[112,114,105,110,116]⟩:ByteArray),(⟨#[112,97,110,105,99]⟩:ByteArray),(⟨#[105,110,112,117,116]⟩:ByteArray),(⟨#[108,101,110]⟩:ByteArray),(⟨#[109,97,107,101]⟩:ByteArray),(⟨#[105,110,116]⟩:ByteArray),(⟨#[98,111,111,108]⟩:ByteArray),(⟨#[116,114,117,101]⟩:ByteArray),(⟨#[102,97,108,115,101]⟩:ByteArray),(⟨#[110,105,108]⟩:ByteArray)]:List ByteArray)):=⟨_,rfl⟩
 replace H:(quernref9_IsName.l0 k a0 y255 0) = some r:=by first | (rw [hy255];with_reducible exact H) | (have H2_:=(Option.bind_some _ _).symm.trans H;rw [hy255];with_reducible exact H2_) | (have H2_:=(Option.bind_some _ _).symm.trans H;with_reducible exact H2_) | with_reducible exact H | (rw [hy255];exact H) | exact H
 have Ny255:=Aside0.mk hy255
 clear hy255
 have H':=Aside0.mk H
 clear H
 go_enter Try.func50,Try.ntmps50
 go_wp2_with (first | ((with_reducible refine gate_dst (N:=8) rfl ?_);(try (refine gate_guard (by rfl) ?_;dsimp only));refine Kd.R_lit Kd.string _ 9 ?hg (N:=8) ?hd (xs:=([(⟨#[102,117,110,99]⟩:ByteArray),(⟨#[118,97,114]⟩:ByteArray),(⟨#[105,102]⟩:ByteArray),(⟨#[101,108,115,101]⟩:ByteArray),(⟨#[102,111,114]⟩:ByteArray),(⟨#[114,101,116,117,114,110]⟩:ByteArray),(⟨#[98,114,101,97,107]⟩:ByteArray),(⟨#[99,111,110,116,105,110,117,101]⟩:ByteArray),(⟨#[112,114,105,110,116]⟩:ByteArray),(⟨#[112,97,110,105,99]⟩:ByteArray),(⟨#[105,110,112,117,116]⟩:ByteArray),(⟨#[108,101,110]⟩:ByteArray),(⟨#[109,97,107,101]⟩:ByteArray),(⟨#[105,110,116]⟩:ByteArray),(⟨#[98,111,111,108]⟩:ByteArray),(⟨#[116,114,117,101]⟩:ByteArray),(⟨#[102,97,108,115,101]⟩:ByteArray),(⟨#[110,105,108]⟩:ByteArray)]:List ByteArray)) (inner:=[.string (⟨#[102,117,110,99]⟩:ByteArray),.string (⟨#[118,97,114]⟩:ByteArray),.string (⟨#[105,102]⟩:ByteArray),.string (⟨#[101,108,115,101]⟩:ByteArray),.string (⟨#[102,111,114]⟩:ByteArray),.string (⟨#[114,101,116,117,114,110]⟩:ByteArray),.string (⟨#[98,114,101,97,107]⟩:ByteArray),.string (⟨#[99,111,110,116,105,110,117,101]⟩:ByteArray),.string (⟨#[112,114,105,110,116]⟩:ByteArray),.string (⟨#[112,97,110,105,99]⟩:ByteArray),.string (⟨#[105,110,112,117,116]⟩:ByteArray),.string (⟨#[108,101,110]⟩:ByteArray),.string (⟨#[109,97,107,101]⟩:ByteArray),.string (⟨#[105,110,116]⟩:ByteArray),.string (⟨#[98,111,111,108]⟩:ByteArray),.string (⟨#[116,114,117,101]⟩:ByteArray),.string (⟨#[102,97,108,115,101]⟩:ByteArray),.string (⟨#[110,105,108]⟩:ByteArray)]) (ok:=fun _=>True) (okp:=fun _=>True) ?hr ?hp (fun _ hk=>hk) trivial (Below.refl _ _) (Nat.le_refl _) (by simp) ?_;(case hd=>rfl);(case hg=>rfl);(case hr=>first | (go_simp;done) | (go_simp;rfl));(case hp=>exact (Reps.one (show Kd.M Kd.string _ _ _ (⟨#[102,117,110,99]⟩:ByteArray) [.string (⟨#[102,117,110,99]⟩:ByteArray)] from rfl) (Reps.one (show Kd.M Kd.string _ _ _ (⟨#[118,97,114]⟩:ByteArray) [.string (⟨#[118,97,114]⟩:ByteArray)] from rfl) (Reps.one (show Kd.M Kd.string _ _ _ (⟨#[105,102]⟩:ByteArray) [.string (⟨#[105,102]⟩:ByteArray)] from rfl) (Reps.one (show Kd.M Kd.string _ _ _ (⟨#[101,108,115,101]⟩:ByteArray) [.string (⟨#[101,108,115,101]⟩:ByteArray)] from rfl) (Reps.one (show Kd.M Kd.string _ _ _ (⟨#[102,111,114]⟩:ByteArray) [.string (⟨#[102,111,114]⟩:ByteArray)] from rfl) (Reps.one (show Kd.M Kd.string _ _ _ (⟨#[114,101,116,117,114,110]⟩:ByteArray) [.string (⟨#[114,101,116,117,114,110]⟩:ByteArray)] from rfl) (Reps.one (show Kd.M Kd.string _ _ _ (⟨#[98,114,101,97,107]⟩:ByteArray) [.string (⟨#[98,114,101,97,107]⟩:ByteArray)] from rfl) (Reps.one (show Kd.M Kd.string _ _ _ (⟨#[99,111,110,116,105,110,117,101]⟩:ByteArray) [.string (⟨#[99,111,110,116,105,110,117,101]⟩:ByteArray)] from rfl) (Reps.one (show Kd.M Kd.string _ _ _ (⟨#[112,114,105,110,116]⟩:ByteArray) [.string (⟨#[112,114,105,110,116]⟩:ByteArray)] from rfl) (Reps.one (show Kd.M Kd.string _ _ _ (⟨#[112,97,110,105,99]⟩:ByteArray) [.string (⟨#[112,97,110,105,99]⟩:ByteArray)] from rfl) (Reps.one (show Kd.M Kd.string _ _ _ (⟨#[105,110,112,117,116]⟩:ByteArray) [.string (⟨#[105,110,112,117,116]⟩:ByteArray)] from rfl) (Reps.one (show Kd.M Kd.string _ _ _ (⟨#[108,101,110]⟩:ByteArray) [.string (⟨#[108,101,110]⟩:ByteArray)] from rfl) (Reps.one (show Kd.M Kd.string _ _ _ (⟨#[109,97,107,101]⟩:ByteArray) [.string (⟨#[109,97,107,101]⟩:ByteArray)] from rfl) (Reps.one (show Kd.M Kd.string _ _ _ (⟨#[105,110,116]⟩:ByteArray) [.string (⟨#[105,110,116]⟩:ByteArray)] from rfl) (Reps.one (show Kd.M Kd.string _ _ _ (⟨#[98,111,111,108]⟩:ByteArray) [.string (⟨#[98,111,111,108]⟩:ByteArray)] from rfl) (Reps.one (show Kd.M Kd.string _ _ _ (⟨#[116,114,117,101]⟩:ByteArray) [.string (⟨#[116,114,117,101]⟩:ByteArray)] from rfl) (Reps.one (show Kd.M Kd.string _ _ _ (⟨#[102,97,108,115,101]⟩:ByteArray) [.string (⟨#[102,97,108,115,101]⟩:ByteArray)] from rfl) (Reps.one (show Kd.M Kd.string _ _ _ (⟨#[110,105,108]⟩:ByteArray) [.string (⟨#[110,105,108]⟩:ByteArray)] from rfl) (Reps.none _ _))))))))))))))))))));intro v256 w2 ho3 hb hg_ hnew_;clear hg_ hnew_;(first | rw [← Ny255.out] at ho3 | (simp only [Int.reduceToNat] at ho3;rw [← Ny255.out] at ho3));have n0_:=Aside0.mk (Kd.R_lower ho3 (below_size (by repeat (first | (with_reducible first | exact HB.out | apply below_alloc | apply pw_below_drewN | apply below_drew1) | exact HB.out))));have n1_:=Aside0.mk (below_step (by repeat (first | (with_reducible first | exact HB.out | apply below_alloc | apply pw_below_drewN | apply below_drew1) | exact HB.out)) hb);clear HB;have HO257:=n0_;have HB:=n1_;clear n0_ n1_;clear hb ho3))
 go_loopg [4] k (fun kq v4 w'=>∃ (x4_1:Int),v4 = .int .i64 x4_1 ∧ Aside0 (quernref9_IsName.l0 kq a0 y255 x4_1 = some r) ∧ Aside0 (kq ≤ k) ∧ Aside0 (Kd.R Kd.string 9 w' w.heap.size (fun _=>True) v256 y255) ∧ Aside0 (Below w.heap.size w w'))
 case atStart=>exact ⟨(0),(by first | rfl | (simp;done) | (simp [*];done)),H',⟨Nat.le_refl _⟩,⟨by (with_reducible repeat (first | apply Kd.R_alloc | apply Kd.R_drewN | apply Kd.R_drew));exact HO257.out⟩,⟨by repeat (first | (with_reducible first | exact HB.out | apply below_alloc | apply pw_below_drewN | apply below_drew1) | exact HB.out)⟩⟩
 case round=>
  clear H'
  try clear p2
  obtain ⟨x4_1,rfl,HA,HK1,HO_3,HB⟩:=hrel
  cases gk with
  | zero=>exact absurd HA.out (by simp [quernref9_IsName.l0])
  | succ k1=>
   have H:=HA.out
   clear HA
   simp only [quernref9_IsName.l0] at H
   by_cases c4:x4_1 < (y255.length:Int)
   ·rw [if_pos c4] at H
    have c4b0:decide (x4_1 < (y255.length:Int)) = true:=decide_eq_true c4
    clear c4
    by_cases c5:0 ≤ x4_1
    ·rw [if_pos c5] at H
     have c5b0:decide (0 ≤ x4_1) = true:=decide_eq_true c5
     clear c5
     by_cases c6:a0.toList = (rdOf ByteArray.empty y255 x4_1).toList
     ·rw [if_pos c6] at H
      have c6b0:(a0.toList == (rdOf ByteArray.empty y255 x4_1).toList) = true:=beq_iff_eq.mpr c6
      have c6b1:(a0.toList != (rdOf ByteArray.empty y255 x4_1).toList) = false:=bne_eq_false_iff_eq.mpr c6
      clear c6
      obtain rfl:=Option.some.inj H
      obtain ⟨Ao7,co7,eo7⟩:=Kd.R_slice HO_3.out
      subst eo7
      have p258:0 ≤ (x4_1:Int):=of_decide_eq_true (by first | (with_reducible assumption) | assumption)
      have q258:x4_1 < (y255.length:Int):=of_decide_eq_true (by first | (with_reducible assumption) | assumption)
      obtain ⟨ad258,e258,hx258_0⟩:=Kd.at_string (Kd.R_reads' HO_3.out).2.2 x4_1 p258 q258
      cases e258
      replace p258:=eq_true p258
      replace q258:=eq_true q258
      go_wp2
      go_ret
      exact ⟨by first | rfl | (simp [errW_none,errW_some] <;> rfl) | (simp [*,errW_none,errW_some] <;> rfl),by repeat (first | (with_reducible first | exact HB.out | apply below_alloc | apply pw_below_drewN | apply below_drew1) | exact HB.out)⟩
     ·rw [if_neg c6] at H
      have c6b0:(a0.toList == (rdOf ByteArray.empty y255 x4_1).toList) = false:=beq_eq_false_iff_ne.mpr c6
      have c6b1:(a0.toList != (rdOf ByteArray.empty y255 x4_1).toList) = true:=bne_iff_ne.mpr c6
      have H':=Aside0.mk H
      clear H
      obtain ⟨Ao8,co8,eo8⟩:=Kd.R_slice HO_3.out
      subst eo8
      have p258:0 ≤ (x4_1:Int):=of_decide_eq_true (by first | (with_reducible assumption) | assumption)
      have q258:x4_1 < (y255.length:Int):=of_decide_eq_true (by first | (with_reducible assumption) | assumption)
      obtain ⟨ad258,e258,hx258_0⟩:=Kd.at_string (Kd.R_reads' HO_3.out).2.2 x4_1 p258 q258
      cases e258
      replace p258:=eq_true p258
      replace q258:=eq_true q258
      go_wp2
      go_roundg k1
      case measure=>have:=HK1.out;omega
      case rel=>exact ⟨(wrap64 (x4_1 + 1)),(by first | rfl | (simp;done) | (simp [*];done)),H',⟨by have:=HK1.out;omega⟩,⟨by (with_reducible repeat (first | apply Kd.R_alloc | apply Kd.R_drewN | apply Kd.R_drew));exact HO_3.out⟩,⟨by repeat (first | (with_reducible first | exact HB.out | apply below_alloc | apply pw_below_drewN | apply below_drew1) | exact HB.out)⟩⟩
    ·rw [if_neg c5] at H
     exact absurd H (by simp)
   ·rw [if_neg c4] at H
    have c4b0:decide (x4_1 < (y255.length:Int)) = false:=decide_eq_false c4
    clear c4
    have H':=Aside0.mk H
    clear H
    obtain ⟨Ao9,co9,eo9⟩:=Kd.R_slice HO_3.out
    subst eo9
    go_wp2
    go_loopg [5] k1 (fun kq v5 w'=>∃ (x5_2:Int),v5 = .int .i64 x5_2 ∧ Aside0 (quernref9_IsName.l1 kq a0 x5_2 = some r) ∧ Aside0 (kq ≤ k1) ∧ Aside0 (Below w.heap.size w w'))
    case atStart=>exact ⟨(0),(by first | rfl | (simp;done) | (simp [*];done)),H',⟨Nat.le_refl _⟩,⟨by repeat (first | (with_reducible first | exact HB.out | apply below_alloc | apply pw_below_drewN | apply below_drew1) | exact HB.out)⟩⟩
    case round=>
     clear H'
     try clear p2
     try clear q2
     try clear hx2
     try clear c4
     try clear c4b0
     try clear c5
     try clear c5b0
     try clear c6
     try clear c6b0
     try clear c6b1
     try clear p6
     try clear hx258_0
     try clear p2
     try clear p258
     try clear q258
     obtain ⟨x5_2,rfl,HA,HK2,HB⟩:=hrel
     cases gk with
     | zero=>exact absurd HA.out (by simp [quernref9_IsName.l1])
     | succ k2=>
      have H:=HA.out
      clear HA
      simp only [quernref9_IsName.l1] at H
      by_cases c10:x5_2 < (a0.size:Int)
      ·rw [if_pos c10] at H
       have c10b0:decide (x5_2 < (a0.size:Int)) = true:=decide_eq_true c10
       clear c10
       by_cases c11:0 ≤ x5_2
       ·rw [if_pos c11] at H
        have c11b0:decide (0 ≤ x5_2) = true:=decide_eq_true c11
        clear c11
        by_cases c13:(bt a0 x5_2) ≥ 97
        ·rw [if_pos c13] at H
         have c13b0:decide (97 ≤ (bt a0 x5_2)) = true:=decide_eq_true c13
         clear c13
         by_cases c14:(bt a0 x5_2) ≤ 122
         ·rw [if_pos c14] at H
          have c14b0:decide ((bt a0 x5_2) ≤ 122) = true:=decide_eq_true c14
          clear c14
          have H':=Aside0.mk H
          clear H
          have p12:0 ≤ (x5_2:Int):=of_decide_eq_true (by first | (with_reducible assumption) | assumption)
          have q12:x5_2 < (a0.size:Int):=of_decide_eq_true (by first | (with_reducible assumption) | assumption)
          have hx12:=bt_at a0 x5_2
          replace p12:=eq_true p12
          replace q12:=eq_true q12
          go_wp2
          go_roundg k2
          case measure=>have:=HK1.out;have:=HK2.out;omega
          case rel=>exact ⟨(wrap64 (x5_2 + 1)),(by first | rfl | (simp;done) | (simp [*];done)),H',⟨by have:=HK1.out;have:=HK2.out;omega⟩,⟨by repeat (first | (with_reducible first | exact HB.out | apply below_alloc | apply pw_below_drewN | apply below_drew1) | exact HB.out)⟩⟩
         ·rw [if_neg c14] at H
          have c14b0:decide ((bt a0 x5_2) ≤ 122) = false:=decide_eq_false c14
          clear c14
          by_cases c15:(bt a0 x5_2) ≥ 65
          ·rw [if_pos c15] at H
           have c15b0:decide (65 ≤ (bt a0 x5_2)) = true:=decide_eq_true c15
           clear c15
           by_cases c16:(bt a0 x5_2) ≤ 90
           ·rw [if_pos c16] at H
            have c16b0:decide ((bt a0 x5_2) ≤ 90) = true:=decide_eq_true c16
            clear c16
            have H':=Aside0.mk H
            clear H
            have p12:0 ≤ (x5_2:Int):=of_decide_eq_true (by first | (with_reducible assumption) | assumption)
            have q12:x5_2 < (a0.size:Int):=of_decide_eq_true (by first | (with_reducible assumption) | assumption)
            have hx12:=bt_at a0 x5_2
            replace p12:=eq_true p12
            replace q12:=eq_true q12
            go_wp2
            go_roundg k2
            case measure=>have:=HK1.out;have:=HK2.out;omega
            case rel=>exact ⟨(wrap64 (x5_2 + 1)),(by first | rfl | (simp;done) | (simp [*];done)),H',⟨by have:=HK1.out;have:=HK2.out;omega⟩,⟨by repeat (first | (with_reducible first | exact HB.out | apply below_alloc | apply pw_below_drewN | apply below_drew1) | exact HB.out)⟩⟩
           ·rw [if_neg c16] at H
            have c16b0:decide ((bt a0 x5_2) ≤ 90) = false:=decide_eq_false c16
            clear c16
            by_cases c17:((bt a0 x5_2) = 95)
            ·rw [if_pos c17] at H
             have c17b0:((bt a0 x5_2) == 95) = true:=beq_iff_eq.mpr c17
             have c17b1:((bt a0 x5_2) != 95) = false:=bne_eq_false_iff_eq.mpr c17
             clear c17
             have H':=Aside0.mk H
             clear H
             have p12:0 ≤ (x5_2:Int):=of_decide_eq_true (by first | (with_reducible assumption) | assumption)
             have q12:x5_2 < (a0.size:Int):=of_decide_eq_true (by first | (with_reducible assumption) | assumption)
             have hx12:=bt_at a0 x5_2
             replace p12:=eq_true p12
             replace q12:=eq_true q12
             go_wp2
             go_roundg k2
             case measure=>have:=HK1.out;have:=HK2.out;omega
             case rel=>exact ⟨(wrap64 (x5_2 + 1)),(by first | rfl | (simp;done) | (simp [*];done)),H',⟨by have:=HK1.out;have:=HK2.out;omega⟩,⟨by repeat (first | (with_reducible first | exact HB.out | apply below_alloc | apply pw_below_drewN | apply below_drew1) | exact HB.out)⟩⟩
            ·rw [if_neg c17] at H
             have c17b0:((bt a0 x5_2) == 95) = false:=beq_eq_false_iff_ne.mpr c17
             have c17b1:((bt a0 x5_2) != 95) = true:=bne_iff_ne.mpr c17
             by_cases c18:x5_2 = 0
             ·rw [if_pos c18] at H
              have c18b0:(x5_2 == 0) = true:=beq_iff_eq.mpr c18
              have c18b1:(x5_2 != 0) = false:=bne_eq_false_iff_eq.mpr c18
              clear c18
              obtain rfl:=Option.some.inj H
              have p12:0 ≤ (x5_2:Int):=of_decide_eq_true (by first | (with_reducible assumption) | assumption)
              have q12:x5_2 < (a0.size:Int):=of_decide_eq_true (by first | (with_reducible assumption) | assumption)
              have hx12:=bt_at a0 x5_2
              replace p12:=eq_true p12
              replace q12:=eq_true q12
              go_wp2
              go_ret
              exact ⟨by first | rfl | (simp [errW_none,errW_some] <;> rfl) | (simp [*,errW_none,errW_some] <;> rfl),by repeat (first | (with_reducible first | exact HB.out | apply below_alloc | apply pw_below_drewN | apply below_drew1) | exact HB.out)⟩
             ·rw [if_neg c18] at H
              have c18b0:(x5_2 == 0) = false:=beq_eq_false_iff_ne.mpr c18
              have c18b1:(x5_2 != 0) = true:=bne_iff_ne.mpr c18
              by_cases c19:(bt a0 x5_2) < 48
              ·rw [if_pos c19] at H
               have c19b0:decide ((bt a0 x5_2) < 48) = true:=decide_eq_true c19
               clear c19
               obtain rfl:=Option.some.inj H
               have p12:0 ≤ (x5_2:Int):=of_decide_eq_true (by first | (with_reducible assumption) | assumption)
               have q12:x5_2 < (a0.size:Int):=of_decide_eq_true (by first | (with_reducible assumption) | assumption)
               have hx12:=bt_at a0 x5_2
               replace p12:=eq_true p12
               replace q12:=eq_true q12
               go_wp2
               go_ret
               exact ⟨by first | rfl | (simp [errW_none,errW_some] <;> rfl) | (simp [*,errW_none,errW_some] <;> rfl),by repeat (first | (with_reducible first | exact HB.out | apply below_alloc | apply pw_below_drewN | apply below_drew1) | exact HB.out)⟩
              ·rw [if_neg c19] at H
               have c19b0:decide ((bt a0 x5_2) < 48) = false:=decide_eq_false c19
               clear c19
               by_cases c20:(bt a0 x5_2) > 57
               ·rw [if_pos c20] at H
                have c20b0:decide (57 < (bt a0 x5_2)) = true:=decide_eq_true c20
                clear c20
                obtain rfl:=Option.some.inj H
                have p12:0 ≤ (x5_2:Int):=of_decide_eq_true (by first | (with_reducible assumption) | assumption)
                have q12:x5_2 < (a0.size:Int):=of_decide_eq_true (by first | (with_reducible assumption) | assumption)
                have hx12:=bt_at a0 x5_2
                replace p12:=eq_true p12
                replace q12:=eq_true q12
                go_wp2
                go_ret
                exact ⟨by first | rfl | (simp [errW_none,errW_some] <;> rfl) | (simp [*,errW_none,errW_some] <;> rfl),by repeat (first | (with_reducible first | exact HB.out | apply below_alloc | apply pw_below_drewN | apply below_drew1) | exact HB.out)⟩
               ·rw [if_neg c20] at H
                have c20b0:decide (57 < (bt a0 x5_2)) = false:=decide_eq_false c20
                clear c20
                have H':=Aside0.mk H
                clear H
                have p12:0 ≤ (x5_2:Int):=of_decide_eq_true (by first | (with_reducible assumption) | assumption)
                have q12:x5_2 < (a0.size:Int):=of_decide_eq_true (by first | (with_reducible assumption) | assumption)
                have hx12:=bt_at a0 x5_2
                replace p12:=eq_true p12
                replace q12:=eq_true q12
                go_wp2
                go_roundg k2
                case measure=>have:=HK1.out;have:=HK2.out;omega
                case rel=>exact ⟨(wrap64 (x5_2 + 1)),(by first | rfl | (simp;done) | (simp [*];done)),H',⟨by have:=HK1.out;have:=HK2.out;omega⟩,⟨by repeat (first | (with_reducible first | exact HB.out | apply below_alloc | apply pw_below_drewN | apply below_drew1) | exact HB.out)⟩⟩
          ·rw [if_neg c15] at H
           have c15b0:decide (65 ≤ (bt a0 x5_2)) = false:=decide_eq_false c15
           clear c15
           by_cases c21:((bt a0 x5_2) = 95)
           ·rw [if_pos c21] at H
            have c21b0:((bt a0 x5_2) == 95) = true:=beq_iff_eq.mpr c21
            have c21b1:((bt a0 x5_2) != 95) = false:=bne_eq_false_iff_eq.mpr c21
            clear c21
            have H':=Aside0.mk H
            clear H
            have p12:0 ≤ (x5_2:Int):=of_decide_eq_true (by first | (with_reducible assumption) | assumption)
            have q12:x5_2 < (a0.size:Int):=of_decide_eq_true (by first | (with_reducible assumption) | assumption)
            have hx12:=bt_at a0 x5_2
            replace p12:=eq_true p12
            replace q12:=eq_true q12
            go_wp2
            go_roundg k2
            case measure=>have:=HK1.out;have:=HK2.out;omega
            case rel=>exact ⟨(wrap64 (x5_2 + 1)),(by first | rfl | (simp;done) | (simp [*];done)),H',⟨by have:=HK1.out;have:=HK2.out;omega⟩,⟨by repeat (first | (with_reducible first | exact HB.out | apply below_alloc | apply pw_below_drewN | apply below_drew1) | exact HB.out)⟩⟩
           ·rw [if_neg c21] at H
            have c21b0:((bt a0 x5_2) == 95) = false:=beq_eq_false_iff_ne.mpr c21
            have c21b1:((bt a0 x5_2) != 95) = true:=bne_iff_ne.mpr c21
            by_cases c22:x5_2 = 0
            ·rw [if_pos c22] at H
             have c22b0:(x5_2 == 0) = true:=beq_iff_eq.mpr c22
             have c22b1:(x5_2 != 0) = false:=bne_eq_false_iff_eq.mpr c22
             clear c22
             obtain rfl:=Option.some.inj H
             have p12:0 ≤ (x5_2:Int):=of_decide_eq_true (by first | (with_reducible assumption) | assumption)
             have q12:x5_2 < (a0.size:Int):=of_decide_eq_true (by first | (with_reducible assumption) | assumption)
             have hx12:=bt_at a0 x5_2
             replace p12:=eq_true p12
             replace q12:=eq_true q12
             go_wp2
             go_ret
             exact ⟨by first | rfl | (simp [errW_none,errW_some] <;> rfl) | (simp [*,errW_none,errW_some] <;> rfl),by repeat (first | (with_reducible first | exact HB.out | apply below_alloc | apply pw_below_drewN | apply below_drew1) | exact HB.out)⟩
            ·rw [if_neg c22] at H
             have c22b0:(x5_2 == 0) = false:=beq_eq_false_iff_ne.mpr c22
             have c22b1:(x5_2 != 0) = true:=bne_iff_ne.mpr c22
             by_cases c23:(bt a0 x5_2) < 48
             ·rw [if_pos c23] at H
              have c23b0:decide ((bt a0 x5_2) < 48) = true:=decide_eq_true c23
              clear c23
              obtain rfl:=Option.some.inj H
              have p12:0 ≤ (x5_2:Int):=of_decide_eq_true (by first | (with_reducible assumption) | assumption)
              have q12:x5_2 < (a0.size:Int):=of_decide_eq_true (by first | (with_reducible assumption) | assumption)
              have hx12:=bt_at a0 x5_2
              replace p12:=eq_true p12
              replace q12:=eq_true q12
              go_wp2
              go_ret
              exact ⟨by first | rfl | (simp [errW_none,errW_some] <;> rfl) | (simp [*,errW_none,errW_some] <;> rfl),by repeat (first | (with_reducible first | exact HB.out | apply below_alloc | apply pw_below_drewN | apply below_drew1) | exact HB.out)⟩
             ·rw [if_neg c23] at H
              have c23b0:decide ((bt a0 x5_2) < 48) = false:=decide_eq_false c23
              clear c23
              by_cases c24:(bt a0 x5_2) > 57
              ·rw [if_pos c24] at H
               have c24b0:decide (57 < (bt a0 x5_2)) = true:=decide_eq_true c24
               clear c24
               obtain rfl:=Option.some.inj H
               have p12:0 ≤ (x5_2:Int):=of_decide_eq_true (by first | (with_reducible assumption) | assumption)
               have q12:x5_2 < (a0.size:Int):=of_decide_eq_true (by first | (with_reducible assumption) | assumption)
               have hx12:=bt_at a0 x5_2
               replace p12:=eq_true p12
               replace q12:=eq_true q12
               go_wp2
               go_ret
               exact ⟨by first | rfl | (simp [errW_none,errW_some] <;> rfl) | (simp [*,errW_none,errW_some] <;> rfl),by repeat (first | (with_reducible first | exact HB.out | apply below_alloc | apply pw_below_drewN | apply below_drew1) | exact HB.out)⟩
              ·rw [if_neg c24] at H
               have c24b0:decide (57 < (bt a0 x5_2)) = false:=decide_eq_false c24
               clear c24
               have H':=Aside0.mk H
               clear H
               have p12:0 ≤ (x5_2:Int):=of_decide_eq_true (by first | (with_reducible assumption) | assumption)
               have q12:x5_2 < (a0.size:Int):=of_decide_eq_true (by first | (with_reducible assumption) | assumption)
               have hx12:=bt_at a0 x5_2
               replace p12:=eq_true p12
               replace q12:=eq_true q12
               go_wp2
               go_roundg k2
               case measure=>have:=HK1.out;have:=HK2.out;omega
               case rel=>exact ⟨(wrap64 (x5_2 + 1)),(by first | rfl | (simp;done) | (simp [*];done)),H',⟨by have:=HK1.out;have:=HK2.out;omega⟩,⟨by repeat (first | (with_reducible first | exact HB.out | apply below_alloc | apply pw_below_drewN | apply below_drew1) | exact HB.out)⟩⟩
        ·rw [if_neg c13] at H
         have c13b0:decide (97 ≤ (bt a0 x5_2)) = false:=decide_eq_false c13
         clear c13
         by_cases c25:(bt a0 x5_2) ≥ 65
         ·rw [if_pos c25] at H
          have c25b0:decide (65 ≤ (bt a0 x5_2)) = true:=decide_eq_true c25
          clear c25
          by_cases c26:(bt a0 x5_2) ≤ 90
          ·rw [if_pos c26] at H
           have c26b0:decide ((bt a0 x5_2) ≤ 90) = true:=decide_eq_true c26
           clear c26
           have H':=Aside0.mk H
           clear H
           have p12:0 ≤ (x5_2:Int):=of_decide_eq_true (by first | (with_reducible assumption) | assumption)
           have q12:x5_2 < (a0.size:Int):=of_decide_eq_true (by first | (with_reducible assumption) | assumption)
           have hx12:=bt_at a0 x5_2
           replace p12:=eq_true p12
           replace q12:=eq_true q12
           go_wp2
           go_roundg k2
           case measure=>have:=HK1.out;have:=HK2.out;omega
           case rel=>exact ⟨(wrap64 (x5_2 + 1)),(by first | rfl | (simp;done) | (simp [*];done)),H',⟨by have:=HK1.out;have:=HK2.out;omega⟩,⟨by repeat (first | (with_reducible first | exact HB.out | apply below_alloc | apply pw_below_drewN | apply below_drew1) | exact HB.out)⟩⟩
          ·rw [if_neg c26] at H
           have c26b0:decide ((bt a0 x5_2) ≤ 90) = false:=decide_eq_false c26
           clear c26
           by_cases c27:((bt a0 x5_2) = 95)
           ·rw [if_pos c27] at H
            have c27b0:((bt a0 x5_2) == 95) = true:=beq_iff_eq.mpr c27
            have c27b1:((bt a0 x5_2) != 95) = false:=bne_eq_false_iff_eq.mpr c27
            clear c27
            have H':=Aside0.mk H
            clear H
            have p12:0 ≤ (x5_2:Int):=of_decide_eq_true (by first | (with_reducible assumption) | assumption)
            have q12:x5_2 < (a0.size:Int):=of_decide_eq_true (by first | (with_reducible assumption) | assumption)
            have hx12:=bt_at a0 x5_2
            replace p12:=eq_true p12
            replace q12:=eq_true q12
            go_wp2
            go_roundg k2
            case measure=>have:=HK1.out;have:=HK2.out;omega
            case rel=>exact ⟨(wrap64 (x5_2 + 1)),(by first | rfl | (simp;done) | (simp [*];done)),H',⟨by have:=HK1.out;have:=HK2.out;omega⟩,⟨by repeat (first | (with_reducible first | exact HB.out | apply below_alloc | apply pw_below_drewN | apply below_drew1) | exact HB.out)⟩⟩
           ·rw [if_neg c27] at H
            have c27b0:((bt a0 x5_2) == 95) = false:=beq_eq_false_iff_ne.mpr c27
            have c27b1:((bt a0 x5_2) != 95) = true:=bne_iff_ne.mpr c27
            by_cases c28:x5_2 = 0
            ·rw [if_pos c28] at H
             have c28b0:(x5_2 == 0) = true:=beq_iff_eq.mpr c28
             have c28b1:(x5_2 != 0) = false:=bne_eq_false_iff_eq.mpr c28
             clear c28
             obtain rfl:=Option.some.inj H
             have p12:0 ≤ (x5_2:Int):=of_decide_eq_true (by first | (with_reducible assumption) | assumption)
             have q12:x5_2 < (a0.size:Int):=of_decide_eq_true (by first | (with_reducible assumption) | assumption)
             have hx12:=bt_at a0 x5_2
             replace p12:=eq_true p12
             replace q12:=eq_true q12
             go_wp2
             go_ret
             exact ⟨by first | rfl | (simp [errW_none,errW_some] <;> rfl) | (simp [*,errW_none,errW_some] <;> rfl),by repeat (first | (with_reducible first | exact HB.out | apply below_alloc | apply pw_below_drewN | apply below_drew1) | exact HB.out)⟩
            ·rw [if_neg c28] at H
             have c28b0:(x5_2 == 0) = false:=beq_eq_false_iff_ne.mpr c28
             have c28b1:(x5_2 != 0) = true:=bne_iff_ne.mpr c28
             by_cases c29:(bt a0 x5_2) < 48
             ·rw [if_pos c29] at H
              have c29b0:decide ((bt a0 x5_2) < 48) = true:=decide_eq_true c29
              clear c29
              obtain rfl:=Option.some.inj H
              have p12:0 ≤ (x5_2:Int):=of_decide_eq_true (by first | (with_reducible assumption) | assumption)
              have q12:x5_2 < (a0.size:Int):=of_decide_eq_true (by first | (with_reducible assumption) | assumption)
              have hx12:=bt_at a0 x5_2
              replace p12:=eq_true p12
              replace q12:=eq_true q12
              go_wp2
              go_ret
              exact ⟨by first | rfl | (simp [errW_none,errW_some] <;> rfl) | (simp [*,errW_none,errW_some] <;> rfl),by repeat (first | (with_reducible first | exact HB.out | apply below_alloc | apply pw_below_drewN | apply below_drew1) | exact HB.out)⟩
             ·rw [if_neg c29] at H
              have c29b0:decide ((bt a0 x5_2) < 48) = false:=decide_eq_false c29
              clear c29
              by_cases c30:(bt a0 x5_2) > 57
              ·rw [if_pos c30] at H
               have c30b0:decide (57 < (bt a0 x5_2)) = true:=decide_eq_true c30
               clear c30
               obtain rfl:=Option.some.inj H
               have p12:0 ≤ (x5_2:Int):=of_decide_eq_true (by first | (with_reducible assumption) | assumption)
               have q12:x5_2 < (a0.size:Int):=of_decide_eq_true (by first | (with_reducible assumption) | assumption)
               have hx12:=bt_at a0 x5_2
               replace p12:=eq_true p12
               replace q12:=eq_true q12
               go_wp2
               go_ret
               exact ⟨by first | rfl | (simp [errW_none,errW_some] <;> rfl) | (simp [*,errW_none,errW_some] <;> rfl),by repeat (first | (with_reducible first | exact HB.out | apply below_alloc | apply pw_below_drewN | apply below_drew1) | exact HB.out)⟩
              ·rw [if_neg c30] at H
               have c30b0:decide (57 < (bt a0 x5_2)) = false:=decide_eq_false c30
               clear c30
               have H':=Aside0.mk H
               clear H
               have p12:0 ≤ (x5_2:Int):=of_decide_eq_true (by first | (with_reducible assumption) | assumption)
               have q12:x5_2 < (a0.size:Int):=of_decide_eq_true (by first | (with_reducible assumption) | assumption)
               have hx12:=bt_at a0 x5_2
               replace p12:=eq_true p12
               replace q12:=eq_true q12
               go_wp2
               go_roundg k2
               case measure=>have:=HK1.out;have:=HK2.out;omega
               case rel=>exact ⟨(wrap64 (x5_2 + 1)),(by first | rfl | (simp;done) | (simp [*];done)),H',⟨by have:=HK1.out;have:=HK2.out;omega⟩,⟨by repeat (first | (with_reducible first | exact HB.out | apply below_alloc | apply pw_below_drewN | apply below_drew1) | exact HB.out)⟩⟩
         ·rw [if_neg c25] at H
          have c25b0:decide (65 ≤ (bt a0 x5_2)) = false:=decide_eq_false c25
          clear c25
          by_cases c31:((bt a0 x5_2) = 95)
          ·rw [if_pos c31] at H
           have c31b0:((bt a0 x5_2) == 95) = true:=beq_iff_eq.mpr c31
           have c31b1:((bt a0 x5_2) != 95) = false:=bne_eq_false_iff_eq.mpr c31
           clear c31
           have H':=Aside0.mk H
           clear H
           have p12:0 ≤ (x5_2:Int):=of_decide_eq_true (by first | (with_reducible assumption) | assumption)
           have q12:x5_2 < (a0.size:Int):=of_decide_eq_true (by first | (with_reducible assumption) | assumption)
           have hx12:=bt_at a0 x5_2
           replace p12:=eq_true p12
           replace q12:=eq_true q12
           go_wp2
           go_roundg k2
           case measure=>have:=HK1.out;have:=HK2.out;omega
           case rel=>exact ⟨(wrap64 (x5_2 + 1)),(by first | rfl | (simp;done) | (simp [*];done)),H',⟨by have:=HK1.out;have:=HK2.out;omega⟩,⟨by repeat (first | (with_reducible first | exact HB.out | apply below_alloc | apply pw_below_drewN | apply below_drew1) | exact HB.out)⟩⟩
          ·rw [if_neg c31] at H
           have c31b0:((bt a0 x5_2) == 95) = false:=beq_eq_false_iff_ne.mpr c31
           have c31b1:((bt a0 x5_2) != 95) = true:=bne_iff_ne.mpr c31
           by_cases c32:x5_2 = 0
           ·rw [if_pos c32] at H
            have c32b0:(x5_2 == 0) = true:=beq_iff_eq.mpr c32
            have c32b1:(x5_2 != 0) = false:=bne_eq_false_iff_eq.mpr c32
            clear c32
            obtain rfl:=Option.some.inj H
            have p12:0 ≤ (x5_2:Int):=of_decide_eq_true (by first | (with_reducible assumption) | assumption)
            have q12:x5_2 < (a0.size:Int):=of_decide_eq_true (by first | (with_reducible assumption) | assumption)
            have hx12:=bt_at a0 x5_2
            replace p12:=eq_true p12
            replace q12:=eq_true q12
            go_wp2
            go_ret
            exact ⟨by first | rfl | (simp [errW_none,errW_some] <;> rfl) | (simp [*,errW_none,errW_some] <;> rfl),by repeat (first | (with_reducible first | exact HB.out | apply below_alloc | apply pw_below_drewN | apply below_drew1) | exact HB.out)⟩
           ·rw [if_neg c32] at H
            have c32b0:(x5_2 == 0) = false:=beq_eq_false_iff_ne.mpr c32
            have c32b1:(x5_2 != 0) = true:=bne_iff_ne.mpr c32
            by_cases c33:(bt a0 x5_2) < 48
            ·rw [if_pos c33] at H
             have c33b0:decide ((bt a0 x5_2) < 48) = true:=decide_eq_true c33
             clear c33
             obtain rfl:=Option.some.inj H
             have p12:0 ≤ (x5_2:Int):=of_decide_eq_true (by first | (with_reducible assumption) | assumption)
             have q12:x5_2 < (a0.size:Int):=of_decide_eq_true (by first | (with_reducible assumption) | assumption)
             have hx12:=bt_at a0 x5_2
             replace p12:=eq_true p12
             replace q12:=eq_true q12
             go_wp2
             go_ret
             exact ⟨by first | rfl | (simp [errW_none,errW_some] <;> rfl) | (simp [*,errW_none,errW_some] <;> rfl),by repeat (first | (with_reducible first | exact HB.out | apply below_alloc | apply pw_below_drewN | apply below_drew1) | exact HB.out)⟩
            ·rw [if_neg c33] at H
             have c33b0:decide ((bt a0 x5_2) < 48) = false:=decide_eq_false c33
             clear c33
             by_cases c34:(bt a0 x5_2) > 57
             ·rw [if_pos c34] at H
              have c34b0:decide (57 < (bt a0 x5_2)) = true:=decide_eq_true c34
              clear c34
              obtain rfl:=Option.some.inj H
              have p12:0 ≤ (x5_2:Int):=of_decide_eq_true (by first | (with_reducible assumption) | assumption)
              have q12:x5_2 < (a0.size:Int):=of_decide_eq_true (by first | (with_reducible assumption) | assumption)
              have hx12:=bt_at a0 x5_2
              replace p12:=eq_true p12
              replace q12:=eq_true q12
              go_wp2
              go_ret
              exact ⟨by first | rfl | (simp [errW_none,errW_some] <;> rfl) | (simp [*,errW_none,errW_some] <;> rfl),by repeat (first | (with_reducible first | exact HB.out | apply below_alloc | apply pw_below_drewN | apply below_drew1) | exact HB.out)⟩
             ·rw [if_neg c34] at H
              have c34b0:decide (57 < (bt a0 x5_2)) = false:=decide_eq_false c34
              clear c34
              have H':=Aside0.mk H
              clear H
              have p12:0 ≤ (x5_2:Int):=of_decide_eq_true (by first | (with_reducible assumption) | assumption)
              have q12:x5_2 < (a0.size:Int):=of_decide_eq_true (by first | (with_reducible assumption) | assumption)
              have hx12:=bt_at a0 x5_2
              replace p12:=eq_true p12
              replace q12:=eq_true q12
              go_wp2
              go_roundg k2
              case measure=>have:=HK1.out;have:=HK2.out;omega
              case rel=>exact ⟨(wrap64 (x5_2 + 1)),(by first | rfl | (simp;done) | (simp [*];done)),H',⟨by have:=HK1.out;have:=HK2.out;omega⟩,⟨by repeat (first | (with_reducible first | exact HB.out | apply below_alloc | apply pw_below_drewN | apply below_drew1) | exact HB.out)⟩⟩
       ·rw [if_neg c11] at H
        exact absurd H (by simp)
      ·rw [if_neg c10] at H
       have c10b0:decide (x5_2 < (a0.size:Int)) = false:=decide_eq_false c10
       clear c10
       by_cases c35:(a0.size:Int) ≥ 1
       ·rw [if_pos c35] at H
        have c35b0:decide (1 ≤ (a0.size:Int)) = true:=decide_eq_true c35
        have c35b1:decide (1 ≤ a0.size) = true:=decide_eq_true (by omega)
        clear c35
        obtain rfl:=Option.some.inj H
        go_wp2
        go_ret
        exact ⟨by first | rfl | (simp [errW_none,errW_some] <;> rfl) | (simp [*,errW_none,errW_some] <;> rfl),by repeat (first | (with_reducible first | exact HB.out | apply below_alloc | apply pw_below_drewN | apply below_drew1) | exact HB.out)⟩
       ·rw [if_neg c35] at H
        have c35b0:decide (1 ≤ (a0.size:Int)) = false:=decide_eq_false c35
        have c35b1:decide (1 ≤ a0.size) = false:=decide_eq_false (by omega)
        clear c35
        obtain rfl:=Option.some.inj H
        go_wp2
        go_ret
        exact ⟨by first | rfl | (simp [errW_none,errW_some] <;> rfl) | (simp [*,errW_none,errW_some] <;> rfl),by repeat (first | (with_reducible first | exact HB.out | apply below_alloc | apply pw_below_drewN | apply below_drew1) | exact HB.out)⟩
end Go.Proofs.Ytgbeliajhccndaa.PP
