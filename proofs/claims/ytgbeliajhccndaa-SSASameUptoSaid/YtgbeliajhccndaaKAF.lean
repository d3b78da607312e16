/- Lemmas of this claim (YD). -/
import Derived.Test.YtgbeliajhccndaaKAE
import Derived.Deep.RegionLaw
import Derived.Deep.RegionHeld3
set_option linter.unusedVariables false
set_option linter.unusedSimpArgs false
namespace Go.Proofs.Ytgbeliajhccndaa
open Go.RowKit Go.Proofs.YtgbeliajhccndaaW.PrintWords Go.Proofs.YtgbeliajhccndaaW.PrintLast Go.Proofs.YtgbeliajhccndaaW.PrintMore PP
section
variable {f:S38}
theorem head_n1 (h:8 < f.f1.length):headB f = false:=by unfold headB;rw [decide_eq_false (by omega:¬ f.f1.length ≤ 8)];rfl
theorem head_n2 (h:262143 < f.f3.length):headB f = false:=by unfold headB;rw [decide_eq_false (by omega:¬ f.f3.length < 262144)];simp
theorem head_n3 (h:f.f4.length = 0):headB f = false:=by unfold headB;rw [decide_eq_false (by omega:¬ f.f4.length ≠ 0)];simp
theorem head_n4 (h:f.f2 < 0 ∨ 3 < f.f2):headB f = false:=by
 have e:(decide (0 ≤ f.f2) && decide (f.f2 ≤ 3)) = false:=by simp;omega
 unfold headB;rw [e];simp
theorem head_n5 (h1:f.f1.length ≤ 8) (h2:f.f3.length ≤ 262143) (h3:f.f4.length ≠ 0) (h4:0 ≤ f.f2) (h5:f.f2 ≤ 3):headB f = f.f1.all (inB f.f3.length):=by
 unfold headB
 rw [decide_eq_true h1,decide_eq_true (by omega:f.f3.length < 262144),decide_eq_true h3,decide_eq_true h4,decide_eq_true h5]
 rfl
end
theorem S7_D {w:World} {a0 a1 a2 a3 a4 a5 a6:Addr} {v0 v1 v2 v3 v4 v5 v6:Value} (z:w.cell? a0 = some v0 ∧ w.cell? a1 = some v1 ∧ w.cell? a2 = some v2 ∧ w.cell? a3 = some v3 ∧ w.cell? a4 = some v4 ∧ w.cell? a5 = some v5 ∧ w.cell? a6 = some v6):w.drew.cell? a0 = some v0 ∧ w.drew.cell? a1 = some v1 ∧ w.drew.cell? a2 = some v2 ∧ w.drew.cell? a3 = some v3 ∧ w.drew.cell? a4 = some v4 ∧ w.drew.cell? a5 = some v5 ∧ w.drew.cell? a6 = some v6:=z
theorem S7_O {w:World} {a0 a1 a2 a3 a4 a5 a6:Addr} {v0 v1 v2 v3 v4 v5 v6:Value} (z:w.cell? a0 = some v0 ∧ w.cell? a1 = some v1 ∧ w.cell? a2 = some v2 ∧ w.cell? a3 = some v3 ∧ w.cell? a4 = some v4 ∧ w.cell? a5 = some v5 ∧ w.cell? a6 = some v6) (o:Obj):(w.alloc o).cell? a0 = some v0 ∧ (w.alloc o).cell? a1 = some v1 ∧ (w.alloc o).cell? a2 = some v2 ∧ (w.alloc o).cell? a3 = some v3 ∧ (w.alloc o).cell? a4 = some v4 ∧ (w.alloc o).cell? a5 = some v5 ∧ (w.alloc o).cell? a6 = some v6:=⟨cellO z.1 o,cellO z.2.1 o,cellO z.2.2.1 o,cellO z.2.2.2.1 o,cellO z.2.2.2.2.1 o,cellO z.2.2.2.2.2.1 o,cellO z.2.2.2.2.2.2 o⟩
theorem box2_below {w:World} (o1 o2:Obj):Below w.heap.size w ((w.alloc o1).alloc o2):=below_alloc (below_alloc (Below.refl _ _) o1) o2
theorem box2_blk (w:World) (o1 o2:Obj):((w.alloc o1).alloc o2).heap[w.heap.size]? = some o1 ∧ ((w.alloc o1).alloc o2).heap[w.heap.size + 1]? = some o2:=by
 have h1:=blk_new w o1
 have h2:=blk_new (w.alloc o1) o2
 rw [size_alloc'] at h2
 exact ⟨blkB (below_alloc (Below.refl _ _) o2) h1,h2⟩
set_option maxRecDepth 100000 in
set_option maxHeartbeats 4000000 in
theorem rformedFunc_any (fs:List S38) (mn:Int) (A:Option Addr) (c:Nat) (f:S38) (A1:Option Addr) (c1:Nat) (A3:Option Addr) (c3:Nat) (A4:Option Addr) (c4:Nat) (w:World)
 (hfs:k38.C w A fs.length fs) (hc:fs.length ≤ c) (hf:FA w f A1 c1 A3 c3 A4 c4) (hL:LimF f) :
 Calls Try.prog 51 #[.agg #[.slice A fs.length c,.int .i64 mn],.agg #[.string f.f0,.slice A1 f.f1.length c1,.int .i64 f.f2,.slice A3 f.f3.length c3,.slice A4 f.f4.length c4]] w fun e W=>e = .returned (.bool (funcB fs f)) ∧ Hid (Below w.heap.size w W):=by
 have HL:=Lib.hid hL
 have HC:=Lib.hid hc
 have HFS:=Lib.hid hfs
 have HFA:=Lib.hid hf
 clear hfs hf hL hc
 go_enter Try.func51,Try.ntmps51
 go_upto_region 1 with (fail)
 obtain ⟨w1,hw1⟩:∃ w1,w1 = ((w.alloc (.cells #[.slice A fs.length c,.int .i64 mn] 24)).alloc (.cells #[.string f.f0,.slice A1 f.f1.length c1,.int .i64 f.f2,.slice A3 f.f3.length c3,.slice A4 f.f4.length c4] 38)):=⟨_,rfl⟩
 obtain ⟨g2,hg2⟩:∃ g,g = w.heap.size:=⟨_,rfl⟩
 obtain ⟨g3,hg3⟩:∃ g,g = w.heap.size + 1:=⟨_,rfl⟩
 have hbx:=box2_blk w (.cells #[.slice A fs.length c,.int .i64 mn] 24) (.cells #[.string f.f0,.slice A1 f.f1.length c1,.int .i64 f.f2,.slice A3 f.f3.length c3,.slice A4 f.f4.length c4] 38)
 have hB:Below w.heap.size w w1:=by rw [hw1];exact box2_below _ _
 rw [← hg3,← hg2,← hw1] at hbx
 rw [← hg3,← hg2,← hw1]
 have HBX:=Lib.hid hbx
 have HB:=Lib.hid hB
 have HF1:=Lib.hid (HFA.out.below hB)
 have HS1:=Lib.hid (Kd.C_below HFS.out hB)
 obtain ⟨y0,y1,y2,y3,y4⟩:=S5_blk hbx.2
 clear hw1 hg2 hg3 hbx hB HFA HFS
 obtain ⟨bw,hbw⟩:∃ bw,bw = f.f1.all (inB f.f3.length):=⟨_,rfl⟩
 have HBW:=Lib.hid hbw
 have HWI:Hid (∀ W:World,Below w1.heap.size w1 W → Calls Try.prog 72 #[.slice A1 f.f1.length c1,.int .i64 (f.f3.length:Int)] W fun e w'=>e = .returned (.bool bw) ∧ Hid (Below W.heap.size W w')):=Lib.hid (fun W hW=>by rw [hbw];exact within_any f.f1 _ HL.out.p A1 c1 W (Kd.C_below HF1.out.r1 hW) HF1.out.l1)
 obtain ⟨bad,hbad⟩:∃ bad,bad = !headB f:=⟨_,rfl⟩
 have HBAD:=Lib.hid hbad
 clear hbad hbw
 go_upto_region 2 with (fail)
 go_cut [46] (fun v wx=>v = .bool bad ∧ Hid (Below w1.heap.size w1 wx))
 case first=>
  by_cases h0:(f.f1.length:Int) > 8
  ·have d0_0:decide ((f.f1.length:Int) > 8) = true:=decide_eq_true (by omega)
   have d0_1:decide ((8:Int) < (f.f1.length:Int)) = true:=decide_eq_true (by omega)
   have d0_2:decide (8 < f.f1.length) = true:=decide_eq_true (by omega)
   have HP:Hid (true = bad):=Lib.hid (by rw [HBAD.out,head_n1 (by omega)];rfl)
   clear h0
   go_wp2_with (first | (go_at_call 72;with_reducible refine Calls.mono (HWI.out _ (Below.refl _ _)) ?_;rintro e w4 ⟨rfl,HB4⟩) | (go_at_call 72;refine stop_intro ?_))
   go_meet
   exact ⟨by rw [HP.out],Lib.hid (Below.refl _ _)⟩
  have d0_0:decide ((f.f1.length:Int) > 8) = false:=decide_eq_false (by omega)
  have d0_1:decide ((8:Int) < (f.f1.length:Int)) = false:=decide_eq_false (by omega)
  have d0_2:decide (8 < f.f1.length) = false:=decide_eq_false (by omega)
  by_cases h1:(f.f3.length:Int) > 262143
  ·have d1_0:decide ((f.f3.length:Int) > 262143) = true:=decide_eq_true (by omega)
   have d1_1:decide ((262143:Int) < (f.f3.length:Int)) = true:=decide_eq_true (by omega)
   have d1_2:decide (262143 < f.f3.length) = true:=decide_eq_true (by omega)
   have HP:Hid (true = bad):=Lib.hid (by rw [HBAD.out,head_n2 (by omega)];rfl)
   clear h0 h1
   go_wp2_with (first | (go_at_call 72;with_reducible refine Calls.mono (HWI.out _ (Below.refl _ _)) ?_;rintro e w4 ⟨rfl,HB4⟩) | (go_at_call 72;refine stop_intro ?_))
   go_meet
   exact ⟨by rw [HP.out],Lib.hid (Below.refl _ _)⟩
  have d1_0:decide ((f.f3.length:Int) > 262143) = false:=decide_eq_false (by omega)
  have d1_1:decide ((262143:Int) < (f.f3.length:Int)) = false:=decide_eq_false (by omega)
  have d1_2:decide (262143 < f.f3.length) = false:=decide_eq_false (by omega)
  by_cases h2:(f.f4.length:Int) < 1
  ·have d2_0:decide ((f.f4.length:Int) < 1) = true:=decide_eq_true (by omega)
   have d2_1:decide (f.f4.length < 1) = true:=decide_eq_true (by omega)
   have d2_2:decide (f.f4.length = 0) = true:=decide_eq_true (by omega)
   have HP:Hid (true = bad):=Lib.hid (by rw [HBAD.out,head_n3 (by omega)];rfl)
   clear h0 h1 h2
   go_wp2_with (first | (go_at_call 72;with_reducible refine Calls.mono (HWI.out _ (Below.refl _ _)) ?_;rintro e w4 ⟨rfl,HB4⟩) | (go_at_call 72;refine stop_intro ?_))
   go_meet
   exact ⟨by rw [HP.out],Lib.hid (Below.refl _ _)⟩
  have d2_0:decide ((f.f4.length:Int) < 1) = false:=decide_eq_false (by omega)
  have d2_1:decide (f.f4.length < 1) = false:=decide_eq_false (by omega)
  have d2_2:decide (f.f4.length = 0) = false:=decide_eq_false (by omega)
  by_cases h3:f.f2 < 0
  ·have d3_0:decide (f.f2 < 0) = true:=decide_eq_true (by omega)
   have HP:Hid (true = bad):=Lib.hid (by rw [HBAD.out,head_n4 (.inl (by omega))];rfl)
   clear h0 h1 h2 h3
   go_wp2_with (first | (go_at_call 72;with_reducible refine Calls.mono (HWI.out _ (Below.refl _ _)) ?_;rintro e w4 ⟨rfl,HB4⟩) | (go_at_call 72;refine stop_intro ?_))
   go_meet
   exact ⟨by rw [HP.out],Lib.hid (Below.refl _ _)⟩
  have d3_0:decide (f.f2 < 0) = false:=decide_eq_false (by omega)
  by_cases h4:f.f2 > 3
  ·have d4_0:decide (f.f2 > 3) = true:=decide_eq_true (by omega)
   have d4_1:decide (3 < f.f2) = true:=decide_eq_true (by omega)
   have HP:Hid (true = bad):=Lib.hid (by rw [HBAD.out,head_n4 (.inr (by omega))];rfl)
   clear h0 h1 h2 h3 h4
   go_wp2_with (first | (go_at_call 72;with_reducible refine Calls.mono (HWI.out _ (Below.refl _ _)) ?_;rintro e w4 ⟨rfl,HB4⟩) | (go_at_call 72;refine stop_intro ?_))
   go_meet
   exact ⟨by rw [HP.out],Lib.hid (Below.refl _ _)⟩
  have d4_0:decide (f.f2 > 3) = false:=decide_eq_false (by omega)
  have d4_1:decide (3 < f.f2) = false:=decide_eq_false (by omega)
  have HP:Hid ((!bw) = bad):=Lib.hid (by rw [HBAD.out,head_n5 (by omega) (by omega) (by omega) (by omega) (by omega),HBW.out])
  clear h0 h1 h2 h3 h4
  go_wp2_with (first | (go_at_call 72;with_reducible refine Calls.mono (HWI.out _ (Below.refl _ _)) ?_;rintro e w4 ⟨rfl,HB4⟩) | (go_at_call 72;refine stop_intro ?_))
  go_meet
  exact ⟨by rw [HP.out],HB4⟩
 case rest=>
  obtain ⟨rfl,HBx⟩:=hcut
  clear y0 y1 y2 y3 y4 HWI
  cases bad with
  | true=>
    go_wp2_with (fail)
    go_ret
    exact ⟨ret_bool (funcB_head (by have:=HBAD.out;simpa using this)).symm,Lib.hid (below_then HB.out HB.out.size HBx.out)⟩
  | false=>
    have HHD:Hid (headB f = true):=Lib.hid (by have:=HBAD.out;simpa using this)
    clear HBAD
    go_wp2_with (fail)
    go_loopg [6] f.f3.length (fun k v6 wr=>∃ i:Nat,i ≤ f.f3.length ∧ v6 = .int .i64 i ∧ Hid (i + k = f.f3.length) ∧ Hid (f.f3.all (qB fs f) = (f.f3.drop i).all (qB fs f)) ∧ Hid (Below w1.heap.size w1 wr))
    case atStart=>exact ⟨0,by omega,rfl,Lib.hid (by omega),Lib.hid (by simp),HBx⟩
    case round=>
     clear HBx
     obtain ⟨i,hi,rfl,HI,HP,HBr⟩:=hrel
     by_cases hlt:i < f.f3.length
     ·obtain ⟨s0,s1⟩:=S2_blk (blkB HBr.out HBX.out.1)
      obtain ⟨y0,y1,y2,y3,y4⟩:=S5_blk (blkB HBr.out HBX.out.2)
      obtain ⟨ad,A5,c5,eA,q0,q1,q2,q3,q4,q5⟩:=at_T42 (Kd.C_below HF1.out.r3 HBr.out) (i:Int) (by omega) (by omega)
      have hx0:rd_T42 f.f3 (i:Int) = f.f3.getD i z42:=by simp [rd_T42]
      have HST:=Lib.hid (all_stop (p:=qB fs f) (d:=z42) hlt HP.out)
      have HNX:=Lib.hid (all_next (p:=qB fs f) (d:=z42) hlt HP.out)
      rw [Int.toNat_natCast] at q0 q1 q2 q3
      have hxm:rd_T42 f.f3 (i:Int) ∈ f.f3:=by rw [hx0];exact mem_getD z42 hlt
      rw [← hx0] at HST HNX
      clear hx0
      generalize rd_T42 f.f3 (i:Int) = x at *
      obtain ⟨q,hq⟩:∃ q,q = qB fs f x:=⟨_,rfl⟩
      have HQ:=Lib.hid hq
      have HFV:Hid (∀ W:World,Below wr.heap.size wr W → Calls Try.prog 73 #[.agg #[.slice A fs.length c,.int .i64 mn],.agg #[.string f.f0,.slice A1 f.f1.length c1,.int .i64 f.f2,.slice A3 f.f3.length c3,.slice A4 f.f4.length c4],.agg #[.int .i64 x.f0,.int .i64 x.f1,.int .i64 x.f2,.slice A5 x.f3.length c5]] W fun e w'=>e = .returned (.bool q) ∧ Hid (Below W.heap.size W w')):=Lib.hid (fun W hW=>by
       rw [hq]
       exact rformedValue_any fs mn A c f A1 c1 A3 c3 A4 c4 x A5 c5 W (Kd.C_below HS1.out (below_then HBr.out HBr.out.size hW)) HC.out q4 (Kd.C_below q5 hW) (HL.out.a x hxm))
      have HDR:Hid (Below wr.heap.size wr wr.drew):=Lib.hid (below_drew (Below.refl _ _))
      subst eA
      clear hq hxm q4 q5
      go_upto_region 7 with (fail)
      go_cut [60] (fun v wx=>v = .bool (!q) ∧ Hid (Below wr.heap.size wr wx))
      case first=>
       go_region_with (first | (go_at_call 73;with_reducible refine Calls.mono (HFV.out _ HDR.out) ?_;rintro e w6 ⟨rfl,HB6⟩) | (go_at_call 73;refine stop_intro ?_))
       all_goals
        go_wp2_with (fail)
        go_meet
        exact ⟨rfl,Lib.hid (undrew HB6.out)⟩
      case rest=>
       obtain ⟨rfl,HBy⟩:=hcut
       clear HFV HDR s0 s1 y0 y1 y2 y3 y4 q0 q1 q2 q3
       have HBn:=Lib.hid (below_then HBr.out HBr.out.size HBy.out)
       clear HBy HBr
       cases q with
       | false=>
         go_wp2_with (fail)
         go_ret
         exact ⟨ret_bool (funcB_values (HST.out HQ.out.symm)).symm,Lib.hid (below_then HB.out HB.out.size HBn.out)⟩
       | true=>
         have hvb:=HL.out.v
         go_wp2_with (fail)
         go_roundg (gk - 1)
         case measure=>have:=HI.out;omega
         case rel=>exact ⟨i + 1,by omega,by go_num,Lib.hid (by have:=HI.out;omega),Lib.hid (HNX.out HQ.out.symm),HBn⟩
     ·have hie:i = f.f3.length:=by omega
      subst hie
      have HV:Hid (f.f3.all (qB fs f) = true):=Lib.hid (by rw [HP.out,List.drop_eq_nil_of_le (by omega)];rfl)
      clear hlt hi HI HP
      go_wp2_with (fail)
      go_loopg [7] f.f1.length (fun k v7 wr2=>∃ j:Nat,j ≤ f.f1.length ∧ v7 = .int .i64 j ∧ Hid (j + k = f.f1.length) ∧ Hid (parB f f.f1 0 = parB f (f.f1.drop j) j) ∧ Hid (Below w1.heap.size w1 wr2))
      case atStart=>exact ⟨0,by omega,rfl,Lib.hid (by omega),Lib.hid (by simp),HBr⟩
      case round=>
       clear HBr
       obtain ⟨j,hj,rfl,HJ,HQ,HBr⟩:=hrel
       obtain ⟨y0,y1,y2,y3,y4⟩:=S5_blk (blkB HBr.out HBX.out.2)
       by_cases hlt2:j < f.f1.length
       ·obtain ⟨ad1,hA1,h1⟩:=Kd.at_int (Kd.C_below HF1.out.r1 HBr.out) (j:Int) (by omega) (by omega)
        have e0:rd f.f1 (j:Int) = f.f1.getD j 0:=by simp [rd]
        rw [Int.toNat_natCast,e0] at h1
        have HST:=Lib.hid (par_stop hlt2 HQ.out)
        have HNX:=Lib.hid (par_next hlt2 HQ.out)
        have hal:f.f1.all (inB f.f3.length) = true:=by
         have:=HHD.out
         unfold headB at this
         rw [Bool.and_eq_true] at this
         exact this.2
        have hin:inB f.f3.length (f.f1.getD j 0) = true:=List.all_eq_true.1 hal _ (mem_getD 0 hlt2)
        unfold opAt at HST HNX
        clear e0 hal
        generalize f.f1.getD j 0 = y at *
        have p0:0 ≤ y:=by simp [inB] at hin;omega
        have p1:y < (f.f3.length:Int):=by simp [inB] at hin;omega
        clear hin
        obtain ⟨ad3,B3,d3,hA3,q0,q1,q2,q3,q4,q5⟩:=at_T42 (Kd.C_below HF1.out.r3 HBr.out) y p0 p1
        generalize rd_T42 f.f3 y = x at *
        subst hA1 hA3
        have p0t:=eq_true p0
        have p1t:=eq_true p1
        clear q4 q5 p0 p1
        go_upto_region 12 with (fail)
        go_cut [8] (fun v wx=>∃ g8,v = .pointer (some ⟨g8,0,none⟩) ∧ Hid (Below wr.heap.size wr wx) ∧ Hid (wx.heap[g8]? = some (.cells #[.int .i64 x.f0,.int .i64 x.f1,.int .i64 x.f2,.slice B3 x.f3.length d3] 42 (0,0))))
        case first=>
         have yy:=And.intro y1 (And.intro y3 (And.intro h1 (And.intro q0 (And.intro q1 (And.intro q2 q3)))))
         clear y0 y1 y2 y3 y4 q0 q1 q2 q3 h1
         go_region_held3 (fun w'=>w'.cell? ⟨g3,1,none⟩ = some (.slice (some ad1) f.f1.length c1) ∧ w'.cell? ⟨g3,3,none⟩ = some (.slice (some ad3) f.f3.length c3) ∧ w'.cell? (ad1.add j) = some (.int .i64 y) ∧ w'.cell? (ad3.add (y.toNat * 4)) = some (.int .i64 x.f0) ∧ w'.cell? ⟨(ad3.add (y.toNat * 4)).block,(ad3.add (y.toNat * 4)).off + 1,none⟩ = some (.int .i64 x.f1) ∧ w'.cell? ⟨(ad3.add (y.toNat * 4)).block,(ad3.add (y.toNat * 4)).off + 2,none⟩ = some (.int .i64 x.f2) ∧ w'.cell? ⟨(ad3.add (y.toNat * 4)).block,(ad3.add (y.toNat * 4)).off + 3,none⟩ = some (.slice B3 x.f3.length d3)) (first | with_reducible exact S7_D yy | with_reducible exact yy | with_reducible exact S7_O z _ | with_reducible exact S7_D (S7_O yy _) | fail) (fail)
         all_goals
          go_wp2_with (fail)
          go_meet
          exact ⟨_,rfl,Lib.hid (below_alloc (below_drew (Below.refl _ _)) _),Lib.hid (blk_new _ _)⟩
        case rest=>
         obtain ⟨g8,rfl,HBy,HB8⟩:=hcut
         clear y0 y1 y2 y3 y4 q0 q1 q2 q3 h1 p0t p1t
         have HBn:=Lib.hid (below_then HBr.out HBr.out.size HBy.out)
         clear HBy HBr
         obtain ⟨x0,x1,x2,x3⟩:=S4_blk HB8.out
         by_cases k33:x.f0 = 33
         ·have e1:(x.f0 != 33) = false:=by simp [k33]
          have K33:=Lib.hid (show (x.f0 == 33) = true by simp [k33])
          clear k33
          by_cases ki:x.f2 = (j:Int)
          ·have e2:(x.f2 != (j:Int)) = false:=by simp [ki]
           have KI:=Lib.hid (show (x.f2 == (j:Int)) = true by simp [ki])
           clear ki
           have hvb:=HL.out.p
           go_wp2_with (fail)
           go_roundg (gk - 1)
           case measure=>have:=HJ.out;omega
           case rel=>exact ⟨j + 1,by omega,by go_num,Lib.hid (by have:=HJ.out;omega),Lib.hid (HNX.out (by rw [K33.out,KI.out];rfl)),HBn⟩
          ·have e2:(x.f2 != (j:Int)) = true:=by simp [ki]
           have KI:=Lib.hid (show (x.f2 == (j:Int)) = false by simp [ki])
           clear ki
           go_wp2_with (fail)
           go_ret
           exact ⟨ret_bool (funcB_pars (HST.out (by rw [K33.out,KI.out];rfl))).symm,Lib.hid (below_then HB.out HB.out.size HBn.out)⟩
         ·have e1:(x.f0 != 33) = true:=by simp [k33]
          have K33:=Lib.hid (show (x.f0 == 33) = false by simp [k33])
          clear k33
          go_wp2_with (fail)
          go_ret
          exact ⟨ret_bool (funcB_pars (HST.out (by rw [K33.out];rfl))).symm,Lib.hid (below_then HB.out HB.out.size HBn.out)⟩
       ·have hje:j = f.f1.length:=by omega
        subst hje
        have HPA:Hid (parB f f.f1 0 = true):=Lib.hid (by rw [HQ.out,List.drop_eq_nil_of_le (by omega)];rfl)
        clear hlt2 hj HJ HQ
        go_wp2_with (fail)
        go_loopg [9] f.f4.length (fun k v9 wr3=>∃ i:Nat,i ≤ f.f4.length ∧ v9 = .int .i64 i ∧ Hid (i + k = f.f4.length) ∧ Hid (f.f4.all (blockB f) = (f.f4.drop i).all (blockB f)) ∧ Hid (Below w1.heap.size w1 wr3))
        case atStart=>exact ⟨0,by omega,rfl,Lib.hid (by omega),Lib.hid (by simp),HBr⟩
        case round=>
         clear HBr y0 y1 y2 y3 y4
         obtain ⟨i,hi,rfl,HI,HP,HBr⟩:=hrel
         obtain ⟨y0,y1,y2,y3,y4⟩:=S5_blk (blkB HBr.out HBX.out.2)
         by_cases hlt:i < f.f4.length
         ·obtain ⟨ad,B0,d0,B1,d1,B4,d4,B5,d5,eA,x0,x1,x2,x3,x4,x5,l0,r0,l1,r1,l4,r4,l5,r5⟩:=at_T46 (Kd.C_below HF1.out.r4 HBr.out) (i:Int) (by omega) (by omega)
          have hx0:rd_T46 f.f4 (i:Int) = f.f4.getD i z46:=by simp [rd_T46]
          have HST:=Lib.hid (all_stop (p:=blockB f) (d:=z46) hlt HP.out)
          have HNX:=Lib.hid (all_next (p:=blockB f) (d:=z46) hlt HP.out)
          rw [Int.toNat_natCast] at x0 x1 x2 x3 x4 x5
          have hxm:rd_T46 f.f4 (i:Int) ∈ f.f4:=by rw [hx0];exact mem_getD z46 hlt
          rw [← hx0] at HST HNX
          clear hx0
          generalize rd_T46 f.f4 (i:Int) = x at *
          have hq:=HL.out.q x hxm
          obtain ⟨b0,hb0⟩:∃ b,b = x.f0.all (inB f.f3.length):=⟨_,rfl⟩
          obtain ⟨b1,hb1⟩:∃ b,b = x.f1.all (inB f.f3.length):=⟨_,rfl⟩
          obtain ⟨b3,hb3⟩:∃ b,b = x.f3.all (inB f.f4.length):=⟨_,rfl⟩
          obtain ⟨bt,hbt⟩:∃ b,b = rtermB f x.f2:=⟨_,rfl⟩
          have HQB:Hid (blockB f x = ((b0 && b1 && b3 && bt) && (x.f0.all (fun y=>opAt f y != 33) && x.f1.all (fun y=>opAt f y != 33)))):=Lib.hid (by
           rw [hb0,hb1,hb3,hbt]
           unfold blockB rtermB
           simp only [Bool.and_assoc])
          have H0:=Lib.hid hb0
          have H1:=Lib.hid hb1
          have HN0:Hid (∀ W:World,Below wr.heap.size wr W → Calls Try.prog 72 #[.slice B0 x.f0.length d0,.int .i64 (f.f3.length:Int)] W fun e w'=>e = .returned (.bool b0) ∧ Hid (Below W.heap.size W w')):=Lib.hid (fun W hW=>by rw [hb0];exact within_any x.f0 _ hq.1 B0 d0 W (Kd.C_below r0 hW) l0)
          have HN1:Hid (∀ W:World,Below wr.heap.size wr W → Calls Try.prog 72 #[.slice B1 x.f1.length d1,.int .i64 (f.f3.length:Int)] W fun e w'=>e = .returned (.bool b1) ∧ Hid (Below W.heap.size W w')):=Lib.hid (fun W hW=>by rw [hb1];exact within_any x.f1 _ hq.2.1 B1 d1 W (Kd.C_below r1 hW) l1)
          have HN3:Hid (∀ W:World,Below wr.heap.size wr W → Calls Try.prog 72 #[.slice B5 x.f3.length d5,.int .i64 (f.f4.length:Int)] W fun e w'=>e = .returned (.bool b3) ∧ Hid (Below W.heap.size W w')):=Lib.hid (fun W hW=>by rw [hb3];exact within_any x.f3 _ hq.2.2.2 B5 d5 W (Kd.C_below r5 hW) l5)
          have HNT:Hid (∀ W:World,Below wr.heap.size wr W → Calls Try.prog 74 #[.agg #[.string f.f0,.slice A1 f.f1.length c1,.int .i64 f.f2,.slice A3 f.f3.length c3,.slice A4 f.f4.length c4],.agg #[.int .i64 x.f2.f0,.int .i64 x.f2.f1,.slice B4 x.f2.f2.length d4]] W fun e w'=>e = .returned (.bool bt) ∧ Hid (Below W.heap.size W w')):=Lib.hid (fun W hW=>by rw [hbt];exact rformedTerm_any f A1 c1 A3 c3 A4 c4 x.f2 B4 d4 W l4 (Kd.C_below r4 hW) hq.2.2.1)
          have HXL:=Lib.hid hq
          have R0:=Lib.hid r0
          have R1:=Lib.hid r1
          subst eA
          clear hb0 hb1 hb3 hbt hq hxm r0 r1 r4 r5 l0 l1 l4 l5
          go_upto_region 19 with (fail)
          obtain ⟨wb,hwb⟩:∃ wb,wb = wr.alloc (.cells #[.slice B0 x.f0.length d0,.slice B1 x.f1.length d1,.int .i64 x.f2.f0,.int .i64 x.f2.f1,.slice B4 x.f2.f2.length d4,.slice B5 x.f3.length d5] 46):=⟨_,rfl⟩
          obtain ⟨gb,hgb⟩:∃ gb,gb = wr.heap.size:=⟨_,rfl⟩
          have hBb:Below wr.heap.size wr wb:=by rw [hwb];exact below_alloc (Below.refl _ _) _
          have hFb:wb.heap[gb]? = some (.cells #[.slice B0 x.f0.length d0,.slice B1 x.f1.length d1,.int .i64 x.f2.f0,.int .i64 x.f2.f1,.slice B4 x.f2.f2.length d4,.slice B5 x.f3.length d5] 46 (0,0)):=by rw [hwb,hgb];exact blk_new wr _
          rw [← hgb,← hwb]
          have HBb:=Lib.hid hBb
          have HFb:=Lib.hid hFb
          have y0:=cellB hBb y0
          have y1:=cellB hBb y1
          have y2:=cellB hBb y2
          have y3:=cellB hBb y3
          have y4:=cellB hBb y4
          clear x0 x1 x2 x3 x4 x5
          obtain ⟨x0,x1,x2,x3,x4,x5⟩:=S6_blk hFb
          clear hwb hgb hBb hFb
          obtain ⟨bad,hbad⟩:∃ bad,bad = !(b0 && b1 && b3 && bt):=⟨_,rfl⟩
          have HBAD:=Lib.hid hbad
          clear hbad
          go_cut [125] (fun v wx=>v = .bool bad ∧ Hid (Below wb.heap.size wb wx))
          case first=>
           cases b0
           ·have HZ:Hid (true = bad):=Lib.hid (by rw [HBAD.out];rfl)
            go_wp2_with (first | (go_at_call 72;with_reducible refine Calls.mono (HN0.out _ HBb.out) ?_;rintro e w4 ⟨rfl,HBz1⟩;have y0:=cellB HBz1.out y0;have y1:=cellB HBz1.out y1;have y2:=cellB HBz1.out y2;have y3:=cellB HBz1.out y3;have y4:=cellB HBz1.out y4;have x0:=cellB HBz1.out x0;have x1:=cellB HBz1.out x1;have x2:=cellB HBz1.out x2;have x3:=cellB HBz1.out x3;have x4:=cellB HBz1.out x4;have x5:=cellB HBz1.out x5) | (go_at_call 72;with_reducible refine Calls.mono (HN1.out _ (below_then HBb.out HBb.out.size HBz1.out)) ?_;rintro e w5 ⟨rfl,HBy⟩;have HBz2:=Lib.hid (below_then HBz1.out HBz1.out.size HBy.out);have y0:=cellB HBy.out y0;have y1:=cellB HBy.out y1;have y2:=cellB HBy.out y2;have y3:=cellB HBy.out y3;have y4:=cellB HBy.out y4;have x0:=cellB HBy.out x0;have x1:=cellB HBy.out x1;have x2:=cellB HBy.out x2;have x3:=cellB HBy.out x3;have x4:=cellB HBy.out x4;have x5:=cellB HBy.out x5;clear HBy) | (go_at_call 72;with_reducible refine Calls.mono (HN3.out _ (below_then HBb.out HBb.out.size HBz2.out)) ?_;rintro e w6 ⟨rfl,HBy⟩;have HBz3:=Lib.hid (below_then HBz2.out HBz2.out.size HBy.out);have y0:=cellB HBy.out y0;have y1:=cellB HBy.out y1;have y2:=cellB HBy.out y2;have y3:=cellB HBy.out y3;have y4:=cellB HBy.out y4;have x0:=cellB HBy.out x0;have x1:=cellB HBy.out x1;have x2:=cellB HBy.out x2;have x3:=cellB HBy.out x3;have x4:=cellB HBy.out x4;have x5:=cellB HBy.out x5;clear HBy) | (go_at_call 74;with_reducible refine Calls.mono (HNT.out _ (below_then HBb.out HBb.out.size HBz3.out)) ?_;rintro e w7 ⟨rfl,HBy⟩;have HBz4:=Lib.hid (below_then HBz3.out HBz3.out.size HBy.out);clear HBy) | (go_at_call 72;refine stop_intro ?_) | (go_at_call 74;refine stop_intro ?_))
            go_meet
            exact ⟨by rw [HZ.out],HBz1⟩
           cases b1
           ·have HZ:Hid (true = bad):=Lib.hid (by rw [HBAD.out];rfl)
            go_wp2_with (first | (go_at_call 72;with_reducible refine Calls.mono (HN0.out _ HBb.out) ?_;rintro e w4 ⟨rfl,HBz1⟩;have y0:=cellB HBz1.out y0;have y1:=cellB HBz1.out y1;have y2:=cellB HBz1.out y2;have y3:=cellB HBz1.out y3;have y4:=cellB HBz1.out y4;have x0:=cellB HBz1.out x0;have x1:=cellB HBz1.out x1;have x2:=cellB HBz1.out x2;have x3:=cellB HBz1.out x3;have x4:=cellB HBz1.out x4;have x5:=cellB HBz1.out x5) | (go_at_call 72;with_reducible refine Calls.mono (HN1.out _ (below_then HBb.out HBb.out.size HBz1.out)) ?_;rintro e w5 ⟨rfl,HBy⟩;have HBz2:=Lib.hid (below_then HBz1.out HBz1.out.size HBy.out);have y0:=cellB HBy.out y0;have y1:=cellB HBy.out y1;have y2:=cellB HBy.out y2;have y3:=cellB HBy.out y3;have y4:=cellB HBy.out y4;have x0:=cellB HBy.out x0;have x1:=cellB HBy.out x1;have x2:=cellB HBy.out x2;have x3:=cellB HBy.out x3;have x4:=cellB HBy.out x4;have x5:=cellB HBy.out x5;clear HBy) | (go_at_call 72;with_reducible refine Calls.mono (HN3.out _ (below_then HBb.out HBb.out.size HBz2.out)) ?_;rintro e w6 ⟨rfl,HBy⟩;have HBz3:=Lib.hid (below_then HBz2.out HBz2.out.size HBy.out);have y0:=cellB HBy.out y0;have y1:=cellB HBy.out y1;have y2:=cellB HBy.out y2;have y3:=cellB HBy.out y3;have y4:=cellB HBy.out y4;have x0:=cellB HBy.out x0;have x1:=cellB HBy.out x1;have x2:=cellB HBy.out x2;have x3:=cellB HBy.out x3;have x4:=cellB HBy.out x4;have x5:=cellB HBy.out x5;clear HBy) | (go_at_call 74;with_reducible refine Calls.mono (HNT.out _ (below_then HBb.out HBb.out.size HBz3.out)) ?_;rintro e w7 ⟨rfl,HBy⟩;have HBz4:=Lib.hid (below_then HBz3.out HBz3.out.size HBy.out);clear HBy) | (go_at_call 72;refine stop_intro ?_) | (go_at_call 74;refine stop_intro ?_))
            go_meet
            exact ⟨by rw [HZ.out],HBz2⟩
           cases b3
           ·have HZ:Hid (true = bad):=Lib.hid (by rw [HBAD.out];rfl)
            go_wp2_with (first | (go_at_call 72;with_reducible refine Calls.mono (HN0.out _ HBb.out) ?_;rintro e w4 ⟨rfl,HBz1⟩;have y0:=cellB HBz1.out y0;have y1:=cellB HBz1.out y1;have y2:=cellB HBz1.out y2;have y3:=cellB HBz1.out y3;have y4:=cellB HBz1.out y4;have x0:=cellB HBz1.out x0;have x1:=cellB HBz1.out x1;have x2:=cellB HBz1.out x2;have x3:=cellB HBz1.out x3;have x4:=cellB HBz1.out x4;have x5:=cellB HBz1.out x5) | (go_at_call 72;with_reducible refine Calls.mono (HN1.out _ (below_then HBb.out HBb.out.size HBz1.out)) ?_;rintro e w5 ⟨rfl,HBy⟩;have HBz2:=Lib.hid (below_then HBz1.out HBz1.out.size HBy.out);have y0:=cellB HBy.out y0;have y1:=cellB HBy.out y1;have y2:=cellB HBy.out y2;have y3:=cellB HBy.out y3;have y4:=cellB HBy.out y4;have x0:=cellB HBy.out x0;have x1:=cellB HBy.out x1;have x2:=cellB HBy.out x2;have x3:=cellB HBy.out x3;have x4:=cellB HBy.out x4;have x5:=cellB HBy.out x5;clear HBy) | (go_at_call 72;with_reducible refine Calls.mono (HN3.out _ (below_then HBb.out HBb.out.size HBz2.out)) ?_;rintro e w6 ⟨rfl,HBy⟩;have HBz3:=Lib.hid (below_then HBz2.out HBz2.out.size HBy.out);have y0:=cellB HBy.out y0;have y1:=cellB HBy.out y1;have y2:=cellB HBy.out y2;have y3:=cellB HBy.out y3;have y4:=cellB HBy.out y4;have x0:=cellB HBy.out x0;have x1:=cellB HBy.out x1;have x2:=cellB HBy.out x2;have x3:=cellB HBy.out x3;have x4:=cellB HBy.out x4;have x5:=cellB HBy.out x5;clear HBy) | (go_at_call 74;with_reducible refine Calls.mono (HNT.out _ (below_then HBb.out HBb.out.size HBz3.out)) ?_;rintro e w7 ⟨rfl,HBy⟩;have HBz4:=Lib.hid (below_then HBz3.out HBz3.out.size HBy.out);clear HBy) | (go_at_call 72;refine stop_intro ?_) | (go_at_call 74;refine stop_intro ?_))
            go_meet
            exact ⟨by rw [HZ.out],HBz3⟩
           have HZ:Hid ((!bt) = bad):=Lib.hid (by rw [HBAD.out];rfl)
           go_wp2_with (first | (go_at_call 72;with_reducible refine Calls.mono (HN0.out _ HBb.out) ?_;rintro e w4 ⟨rfl,HBz1⟩;have y0:=cellB HBz1.out y0;have y1:=cellB HBz1.out y1;have y2:=cellB HBz1.out y2;have y3:=cellB HBz1.out y3;have y4:=cellB HBz1.out y4;have x0:=cellB HBz1.out x0;have x1:=cellB HBz1.out x1;have x2:=cellB HBz1.out x2;have x3:=cellB HBz1.out x3;have x4:=cellB HBz1.out x4;have x5:=cellB HBz1.out x5) | (go_at_call 72;with_reducible refine Calls.mono (HN1.out _ (below_then HBb.out HBb.out.size HBz1.out)) ?_;rintro e w5 ⟨rfl,HBy⟩;have HBz2:=Lib.hid (below_then HBz1.out HBz1.out.size HBy.out);have y0:=cellB HBy.out y0;have y1:=cellB HBy.out y1;have y2:=cellB HBy.out y2;have y3:=cellB HBy.out y3;have y4:=cellB HBy.out y4;have x0:=cellB HBy.out x0;have x1:=cellB HBy.out x1;have x2:=cellB HBy.out x2;have x3:=cellB HBy.out x3;have x4:=cellB HBy.out x4;have x5:=cellB HBy.out x5;clear HBy) | (go_at_call 72;with_reducible refine Calls.mono (HN3.out _ (below_then HBb.out HBb.out.size HBz2.out)) ?_;rintro e w6 ⟨rfl,HBy⟩;have HBz3:=Lib.hid (below_then HBz2.out HBz2.out.size HBy.out);have y0:=cellB HBy.out y0;have y1:=cellB HBy.out y1;have y2:=cellB HBy.out y2;have y3:=cellB HBy.out y3;have y4:=cellB HBy.out y4;have x0:=cellB HBy.out x0;have x1:=cellB HBy.out x1;have x2:=cellB HBy.out x2;have x3:=cellB HBy.out x3;have x4:=cellB HBy.out x4;have x5:=cellB HBy.out x5;clear HBy) | (go_at_call 74;with_reducible refine Calls.mono (HNT.out _ (below_then HBb.out HBb.out.size HBz3.out)) ?_;rintro e w7 ⟨rfl,HBy⟩;have HBz4:=Lib.hid (below_then HBz3.out HBz3.out.size HBy.out);clear HBy) | (go_at_call 72;refine stop_intro ?_) | (go_at_call 74;refine stop_intro ?_))
           go_meet
           exact ⟨by rw [HZ.out],HBz4⟩
          case rest=>
           obtain ⟨rfl,HBy⟩:=hcut
           have HBc:=Lib.hid (below_then HBb.out HBb.out.size HBy.out)
           have HFc:=Lib.hid (blkB HBy.out HFb.out)
           have HBd:=Lib.hid (below_then HBr.out HBr.out.size HBc.out)
           clear HN0 HN1 HN3 HNT HBb HFb HBy y0 y1 y2 y3 y4 x0 x1 x2 x3 x4 x5
           cases bad with
           | true=>
             have HZ:Hid (blockB f x = false):=Lib.hid (by
              rw [HQB.out]
              have h:(b0 && b1 && b3 && bt) = false:=by have:=HBAD.out;revert this;generalize (b0 && b1 && b3 && bt) = p;cases p <;> simp
              rw [h];rfl)
             go_wp2_with (fail)
             go_ret
             exact ⟨ret_bool (funcB_blocks (HST.out HZ.out)).symm,Lib.hid (below_then HB.out HB.out.size HBd.out)⟩
           | false=>
             have HAND:Hid ((b0 && b1 && b3 && bt) = true):=Lib.hid (by have:=HBAD.out;revert this;generalize (b0 && b1 && b3 && bt) = p;cases p <;> simp)
             have HI0:Hid (x.f0.all (inB f.f3.length) = true ∧ x.f1.all (inB f.f3.length) = true):=Lib.hid (by
              have h:=HAND.out
              simp only [Bool.and_eq_true] at h
              exact ⟨by rw [← H0.out];exact h.1.1.1,by rw [← H1.out];exact h.1.1.2⟩)
             have HQB2:Hid (blockB f x = (x.f0.all (fun y=>opAt f y != 33) && x.f1.all (fun y=>opAt f y != 33))):=Lib.hid (by rw [HQB.out,HAND.out];rfl)
             clear HBAD HQB HAND H0 H1
             have HC0:=Lib.hid (Kd.C_below R0.out HBc.out)
             have HC1:=Lib.hid (Kd.C_below R1.out HBc.out)
             clear R0 R1
             generalize wr = wi at *
             generalize gk = go at *
             go_wp2_with (fail)
             go_loopg [11] x.f0.length (fun k v wr4=>∃ q:Nat,q ≤ x.f0.length ∧ v = .int .i64 q ∧ Hid (q + k = x.f0.length) ∧ Hid (x.f0.all (fun y=>opAt f y != 33) = (x.f0.drop q).all (fun y=>opAt f y != 33)) ∧ Hid (Below wc.heap.size wc wr4))
             case atStart=>exact ⟨0,by omega,rfl,Lib.hid (by omega),Lib.hid (by simp),Lib.hid (Below.refl _ _)⟩
             case round=>
              obtain ⟨q,hq,rfl,HQI,HQP,HBe⟩:=hrel
              have HBf:=Lib.hid (below_then HBd.out HBd.out.size HBe.out)
              obtain ⟨y0,y1,y2,y3,y4⟩:=S5_blk (blkB HBf.out HBX.out.2)
              obtain ⟨x0,x1,x2,x3,x4,x5⟩:=S6_blk (blkB HBe.out HFc.out)
              by_cases hlq:q < x.f0.length
              ·obtain ⟨ad1,hA1,h1⟩:=Kd.at_int (Kd.C_below HC0.out HBe.out) (q:Int) (by omega) (by omega)
               have e0:rd x.f0 (q:Int) = x.f0.getD q 0:=by simp [rd]
               rw [Int.toNat_natCast,e0] at h1
               have HST2:=Lib.hid (all_stop (p:=fun y=>opAt f y != 33) (d:=0) hlq HQP.out)
               have HNX2:=Lib.hid (all_next (p:=fun y=>opAt f y != 33) (d:=0) hlq HQP.out)
               have hin:inB f.f3.length (x.f0.getD q 0) = true:=List.all_eq_true.1 HI0.out.1 _ (mem_getD 0 hlq)
               have HST3:Hid (¬ (rd_T42 f.f3 (x.f0.getD q 0)).f0 ≠ 33 → x.f0.all (fun y=>opAt f y != 33) = false):=Lib.hid (fun h=>HST2.out (by unfold opAt;simpa using h))
               have HNX3:Hid ((rd_T42 f.f3 (x.f0.getD q 0)).f0 ≠ 33 → x.f0.all (fun y=>opAt f y != 33) = (x.f0.drop (q + 1)).all (fun y=>opAt f y != 33)):=Lib.hid (fun h=>HNX2.out (by unfold opAt;simpa using h))
               clear HST2 HNX2
               clear e0
               generalize x.f0.getD q 0 = y at *
               have p0:0 ≤ y:=by simp [inB] at hin;omega
               have p1:y < (f.f3.length:Int):=by simp [inB] at hin;omega
               clear hin
               obtain ⟨ad3,B3,d3,hA3,q0,q1,q2,q3,q4,q5⟩:=at_T42 (Kd.C_below HF1.out.r3 HBf.out) y p0 p1
               subst hA1 hA3
               clear q1 q2 q3 q4 q5
               by_cases k33:(rd_T42 f.f3 y).f0 = 33
               ·have e1:((rd_T42 f.f3 y).f0 == 33) = true:=by simp [k33]
                have HZ:Hid (blockB f x = false):=Lib.hid (by rw [HQB2.out,HST3.out (by simp [k33])];simp)
                clear k33
                go_upto_region 24 with (fail)
                go_quiet (fail)
                go_wp2_with (fail)
                go_ret
                exact ⟨ret_bool (funcB_blocks (HST.out HZ.out)).symm,Lib.hid (pw_below_drewN (below_then HB.out HB.out.size HBf.out) _)⟩
               ·have e1:((rd_T42 f.f3 y).f0 == 33) = false:=by simp [k33]
                have HZ:=Lib.hid (HNX3.out k33)
                clear k33
                have hvb:x.f0.length ≤ 1000000000:=HXL.out.1
                go_upto_region 24 with (fail)
                go_quiet (fail)
                go_wp2_with (fail)
                go_roundg (gk - 1)
                case measure=>have:=HQI.out;omega
                case rel=>exact ⟨q + 1,by omega,by go_num,Lib.hid (by have:=HQI.out;omega),HZ,Lib.hid (pw_below_drewN HBe.out _)⟩
              ·have hqe:q = x.f0.length:=by omega
               subst hqe
               have HA0:Hid (x.f0.all (fun y=>opAt f y != 33) = true):=Lib.hid (by rw [HQP.out,List.drop_eq_nil_of_le (by omega)];rfl)
               clear hlq hq HQI HQP
               go_wp2_with (fail)
               go_loopg [12] x.f1.length (fun k v wr4=>∃ q:Nat,q ≤ x.f1.length ∧ v = .int .i64 q ∧ Hid (q + k = x.f1.length) ∧ Hid (x.f1.all (fun y=>opAt f y != 33) = (x.f1.drop q).all (fun y=>opAt f y != 33)) ∧ Hid (Below wc.heap.size wc wr4))
               case atStart=>exact ⟨0,by omega,rfl,Lib.hid (by omega),Lib.hid (by simp),HBe⟩
               case round=>
                clear HBe y0 y1 y2 y3 y4 x0 x1 x2 x3 x4 x5
                obtain ⟨q,hq,rfl,HQI,HQP,HBe⟩:=hrel
                have HBf:=Lib.hid (below_then HBd.out HBd.out.size HBe.out)
                obtain ⟨y0,y1,y2,y3,y4⟩:=S5_blk (blkB HBf.out HBX.out.2)
                obtain ⟨x0,x1,x2,x3,x4,x5⟩:=S6_blk (blkB HBe.out HFc.out)
                by_cases hlq:q < x.f1.length
                ·obtain ⟨ad1,hA1,h1⟩:=Kd.at_int (Kd.C_below HC1.out HBe.out) (q:Int) (by omega) (by omega)
                 have e0:rd x.f1 (q:Int) = x.f1.getD q 0:=by simp [rd]
                 rw [Int.toNat_natCast,e0] at h1
                 have HST2:=Lib.hid (all_stop (p:=fun y=>opAt f y != 33) (d:=0) hlq HQP.out)
                 have HNX2:=Lib.hid (all_next (p:=fun y=>opAt f y != 33) (d:=0) hlq HQP.out)
                 have hin:inB f.f3.length (x.f1.getD q 0) = true:=List.all_eq_true.1 HI0.out.2 _ (mem_getD 0 hlq)
                 have HST3:Hid (¬ (rd_T42 f.f3 (x.f1.getD q 0)).f0 ≠ 33 → x.f1.all (fun y=>opAt f y != 33) = false):=Lib.hid (fun h=>HST2.out (by unfold opAt;simpa using h))
                 have HNX3:Hid ((rd_T42 f.f3 (x.f1.getD q 0)).f0 ≠ 33 → x.f1.all (fun y=>opAt f y != 33) = (x.f1.drop (q + 1)).all (fun y=>opAt f y != 33)):=Lib.hid (fun h=>HNX2.out (by unfold opAt;simpa using h))
                 clear HST2 HNX2
                 clear e0
                 generalize x.f1.getD q 0 = y at *
                 have p0:0 ≤ y:=by simp [inB] at hin;omega
                 have p1:y < (f.f3.length:Int):=by simp [inB] at hin;omega
                 clear hin
                 obtain ⟨ad3,B3,d3,hA3,q0,q1,q2,q3,q4,q5⟩:=at_T42 (Kd.C_below HF1.out.r3 HBf.out) y p0 p1
                 subst hA1 hA3
                 clear q1 q2 q3 q4 q5
                 by_cases k33:(rd_T42 f.f3 y).f0 = 33
                 ·have e1:((rd_T42 f.f3 y).f0 == 33) = true:=by simp [k33]
                  have HZ:Hid (blockB f x = false):=Lib.hid (by rw [HQB2.out,HST3.out (by simp [k33])];simp)
                  clear k33
                  go_upto_region 29 with (fail)
                  go_quiet (fail)
                  go_wp2_with (fail)
                  go_ret
                  exact ⟨ret_bool (funcB_blocks (HST.out HZ.out)).symm,Lib.hid (pw_below_drewN (below_then HB.out HB.out.size HBf.out) _)⟩
                 ·have e1:((rd_T42 f.f3 y).f0 == 33) = false:=by simp [k33]
                  have HZ:=Lib.hid (HNX3.out k33)
                  clear k33
                  have hvb:x.f1.length ≤ 1000000000:=HXL.out.2.1
                  go_upto_region 29 with (fail)
                  go_quiet (fail)
                  go_wp2_with (fail)
                  go_roundg (gk - 1)
                  case measure=>have:=HQI.out;omega
                  case rel=>exact ⟨q + 1,by omega,by go_num,Lib.hid (by have:=HQI.out;omega),HZ,Lib.hid (pw_below_drewN HBe.out _)⟩
                ·have hqe:q = x.f1.length:=by omega
                 subst hqe
                 have HA1:Hid (x.f1.all (fun y=>opAt f y != 33) = true):=Lib.hid (by rw [HQP.out,List.drop_eq_nil_of_le (by omega)];rfl)
                 clear hlq hq HQI HQP
                 have hvb:=HL.out.b
                 have HZ:Hid (blockB f x = true):=Lib.hid (by rw [HQB2.out,HA0.out,HA1.out];rfl)
                 go_wp2_with (fail)
                 go_roundg (go - 1)
                 case measure=>have:=HI.out;omega
                 case rel=>exact ⟨i + 1,by omega,by go_num,Lib.hid (by have:=HI.out;omega),Lib.hid (HNX.out HZ.out),HBf⟩
         ·have hie:i = f.f4.length:=by omega
          subst hie
          have HBK:Hid (f.f4.all (blockB f) = true):=Lib.hid (by rw [HP.out,List.drop_eq_nil_of_le (by omega)];rfl)
          clear hlt hi HI HP
          go_wp2_with (fail)
          go_ret
          exact ⟨ret_bool (funcB_all HHD.out HV.out HPA.out HBK.out).symm,Lib.hid (below_then HB.out HB.out.size HBr.out)⟩
end Go.Proofs.Ytgbeliajhccndaa
