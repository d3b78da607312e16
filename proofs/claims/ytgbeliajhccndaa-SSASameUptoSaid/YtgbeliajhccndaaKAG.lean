/- Lemmas of this claim (YE,YF). -/
import Derived.Test.YtgbeliajhccndaaKAF
import Derived.Laws.MakeOwn
section
set_option linter.unusedVariables false
set_option linter.unusedSimpArgs false
namespace Go.Proofs.Ytgbeliajhccndaa
open Go.RowKit Go.Proofs.YtgbeliajhccndaaW.PrintWords Go.Proofs.YtgbeliajhccndaaW.PrintLast Go.Proofs.YtgbeliajhccndaaW.PrintMore PP
def phisB (f:S38):Bool:=f.f4.all (phisBlk f) && ((f.f4.getD 0 z46).f0.length:Int) == 0
theorem phisB_E (f:S38):(phisB f = true) ↔ phisE f = 0:=by
 unfold phisB phisE
 by_cases h:(f.f4.getD 0 z46).f0.length = 0 ∧ f.f4.all (phisBlk f) = true
 ·rw [if_pos h,h.2,h.1]
  exact ⟨fun _=>rfl,fun _=>rfl⟩
 ·rw [if_neg h]
  constructor
  ·intro h2
   rw [Bool.and_eq_true] at h2
   exact absurd ⟨by simpa using h2.2,h2.1⟩ h
  ·intro h2;exact absurd h2 (by decide)
structure Rng (f:S38):Prop where
 par:f.f1.all (inB f.f3.length) = true
 val:∀ v ∈ f.f3,v.f3.all (inB f.f3.length) = true
 phi:∀ b ∈ f.f4,b.f0.all (inB f.f3.length) = true
 bod:∀ b ∈ f.f4,b.f1.all (inB f.f3.length) = true
 pre:∀ b ∈ f.f4,b.f3.all (inB f.f4.length) = true
 to_:∀ b ∈ f.f4,b.f2.f2.all (inB f.f4.length) = true
 ter:∀ b ∈ f.f4,b.f2.f1 < (f.f3.length:Int)
 blk:0 < f.f4.length
set_option maxRecDepth 100000 in
set_option maxHeartbeats 4000000 in
theorem rphis_any (f:S38) (A1:Option Addr) (c1:Nat) (A3:Option Addr) (c3:Nat) (A4:Option Addr) (c4:Nat) (w:World) (hf:FA w f A1 c1 A3 c3 A4 c4) (hL:LimF f) (hR:Rng f) :
 Calls Try.prog 55 #[.agg #[.string f.f0,.slice A1 f.f1.length c1,.int .i64 f.f2,.slice A3 f.f3.length c3,.slice A4 f.f4.length c4]] w fun e W=>e = .returned (.bool (phisB f)) ∧ Hid (Below w.heap.size w W):=by
 have HL:=Lib.hid hL
 have HR:=Lib.hid hR
 have HFA:=Lib.hid hf
 clear hf hL hR
 go_enter Try.func55,Try.ntmps55
 go_upto_region 1 with (fail)
 obtain ⟨w1,hw1⟩:∃ w1,w1 = w.alloc (.cells #[.string f.f0,.slice A1 f.f1.length c1,.int .i64 f.f2,.slice A3 f.f3.length c3,.slice A4 f.f4.length c4] 38):=⟨_,rfl⟩
 obtain ⟨g3,hg3⟩:∃ g,g = w.heap.size:=⟨_,rfl⟩
 have hbx:w1.heap[g3]? = some (.cells #[.string f.f0,.slice A1 f.f1.length c1,.int .i64 f.f2,.slice A3 f.f3.length c3,.slice A4 f.f4.length c4] 38 (0,0)):=by rw [hw1,hg3];exact blk_new w _
 have hB:Below w.heap.size w w1:=by rw [hw1];exact below_alloc (Below.refl _ _) _
 rw [← hg3,← hw1]
 have HBX:=Lib.hid hbx
 have HB:=Lib.hid hB
 have HF1:=Lib.hid (HFA.out.below hB)
 have HBx:Hid (Below w1.heap.size w1 w1):=Lib.hid (Below.refl _ _)
 clear hw1 hg3 hbx hB HFA
 go_wp2_with (fail)
 go_loopg [3] f.f4.length (fun k v3 wr3=>∃ i:Nat,i ≤ f.f4.length ∧ v3 = .int .i64 i ∧ Hid (i + k = f.f4.length) ∧ Hid (f.f4.all (phisBlk f) = (f.f4.drop i).all (phisBlk f)) ∧ Hid (Below w1.heap.size w1 wr3))
 case atStart=>exact ⟨0,by omega,rfl,Lib.hid (by omega),Lib.hid (by simp),HBx⟩
 case round=>
  clear HBx
  obtain ⟨i,hi,rfl,HI,HP,HBr⟩:=hrel
  obtain ⟨y0,y1,y2,y3,y4⟩:=S5_blk (blkB HBr.out HBX.out)
  by_cases hlt:i < f.f4.length
  ·obtain ⟨ad,B0,d0,B1,d1,B4,d4,B5,d5,eA,x0,x1,x2,x3,x4,x5,l0,r0,l1,r1,l4,r4,l5,r5⟩:=at_T46 (Kd.C_below HF1.out.r4 HBr.out) (i:Int) (by omega) (by omega)
   have hx0:rd_T46 f.f4 (i:Int) = f.f4.getD i z46:=by simp [rd_T46]
   have HST:=Lib.hid (all_stop (p:=phisBlk f) (d:=z46) hlt HP.out)
   have HNX:=Lib.hid (all_next (p:=phisBlk f) (d:=z46) hlt HP.out)
   rw [Int.toNat_natCast] at x0 x1 x2 x3 x4 x5
   have hxm:rd_T46 f.f4 (i:Int) ∈ f.f4:=by rw [hx0];exact mem_getD z46 hlt
   rw [← hx0] at HST HNX
   clear hx0
   generalize rd_T46 f.f4 (i:Int) = x at *
   have HXL:=Lib.hid (HL.out.q x hxm)
   have HI0:Hid (x.f0.all (inB f.f3.length) = true ∧ x.f1.all (inB f.f3.length) = true):=Lib.hid ⟨HR.out.phi x hxm,HR.out.bod x hxm⟩
   have HE0:=Lib.hid r0
   have HE1:=Lib.hid r1
   subst eA
   clear hxm r0 r1 r4 r5 l0 l1 l4 l5
   go_upto_region 5 with (fail)
   obtain ⟨wc,hwc⟩:∃ wc,wc = wr.alloc (.cells #[.slice B0 x.f0.length d0,.slice B1 x.f1.length d1,.int .i64 x.f2.f0,.int .i64 x.f2.f1,.slice B4 x.f2.f2.length d4,.slice B5 x.f3.length d5] 46):=⟨_,rfl⟩
   obtain ⟨gb,hgb⟩:∃ gb,gb = wr.heap.size:=⟨_,rfl⟩
   have hBb:Below wr.heap.size wr wc:=by rw [hwc];exact below_alloc (Below.refl _ _) _
   have hFb:wc.heap[gb]? = some (.cells #[.slice B0 x.f0.length d0,.slice B1 x.f1.length d1,.int .i64 x.f2.f0,.int .i64 x.f2.f1,.slice B4 x.f2.f2.length d4,.slice B5 x.f3.length d5] 46 (0,0)):=by rw [hwc,hgb];exact blk_new wr _
   rw [← hgb,← hwc]
   have HFc:=Lib.hid hFb
   have HBd:=Lib.hid (below_then HBr.out HBr.out.size hBb)
   have HC0:=Lib.hid (Kd.C_below HE0.out hBb)
   have HC1:=Lib.hid (Kd.C_below HE1.out hBb)
   clear HE0 HE1 hwc hgb hBb hFb x0 x1 x2 x3 x4 x5 y0 y1 y2 y3 y4
   generalize wr = wi at *
   generalize gk = go at *
   go_wp2_with (fail)
   go_loopg [5] x.f0.length (fun k v wr4=>∃ q:Nat,q ≤ x.f0.length ∧ v = .int .i64 q ∧ Hid (q + k = x.f0.length) ∧ Hid (x.f0.all (phiB f x.f3.length) = (x.f0.drop q).all (phiB f x.f3.length)) ∧ Hid (Below wc.heap.size wc wr4))
   case atStart=>exact ⟨0,by omega,rfl,Lib.hid (by omega),Lib.hid (by simp),Lib.hid (Below.refl _ _)⟩
   case round=>
    obtain ⟨q,hq,rfl,HQI,HQP,HBe⟩:=hrel
    have HBf:=Lib.hid (below_then HBd.out HBd.out.size HBe.out)
    obtain ⟨y0,y1,y2,y3,y4⟩:=S5_blk (blkB HBf.out HBX.out)
    obtain ⟨x0,x1,x2,x3,x4,x5⟩:=S6_blk (blkB HBe.out HFc.out)
    by_cases hlq:q < x.f0.length
    ·obtain ⟨ad1,hA1,h1⟩:=Kd.at_int (Kd.C_below HC0.out HBe.out) (q:Int) (by omega) (by omega)
     have e0:rd x.f0 (q:Int) = x.f0.getD q 0:=by simp [rd]
     rw [Int.toNat_natCast,e0] at h1
     have HST2:=Lib.hid (all_stop (p:=phiB f x.f3.length) (d:=0) hlq HQP.out)
     have HNX2:=Lib.hid (all_next (p:=phiB f x.f3.length) (d:=0) hlq HQP.out)
     have hin:inB f.f3.length (x.f0.getD q 0) = true:=List.all_eq_true.1 HI0.out.1 _ (mem_getD 0 hlq)
     clear e0
     generalize x.f0.getD q 0 = y at *
     have p0:0 ≤ y:=by simp [inB] at hin;omega
     have p1:y < (f.f3.length:Int):=by simp [inB] at hin;omega
     clear hin
     obtain ⟨ad3,B3,d3,hA3,q0,q1,q2,q3,q4,q5⟩:=at_T42 (Kd.C_below HF1.out.r3 HBf.out) y p0 p1
     obtain ⟨z,hz⟩:∃ z,z = rd_T42 f.f3 y:=⟨_,rfl⟩
     have HPB:Hid (phiB f x.f3.length y = (z.f0 == 32 && ((z.f3.length:Int) == (x.f3.length:Int)))):=Lib.hid (by rw [hz];rfl)
     rw [← hz] at q0 q1 q2 q3
     subst hA1 hA3
     have p0t:=eq_true p0
     have p1t:=eq_true p1
     have yy:=And.intro y3 (And.intro x0 (And.intro h1 (And.intro q0 (And.intro q1 (And.intro q2 q3)))))
     clear q4 q5 p0 p1 hz y0 y1 y2 y4 x0 x1 x2 x3 x4 y3 h1 q0 q1 q2 q3
     go_upto_region 8 with (fail)
     go_cut [6] (fun v wx=>∃ g8,v = .pointer (some ⟨g8,0,none⟩) ∧ Hid (Below wr.heap.size wr wx) ∧ Hid (wx.heap[g8]? = some (.cells #[.int .i64 z.f0,.int .i64 z.f1,.int .i64 z.f2,.slice B3 z.f3.length d3] 42 (0,0))))
     case first=>
      go_region_held3 (fun w'=>w'.cell? ⟨g3,3,none⟩ = some (.slice (some ad3) f.f3.length c3) ∧ w'.cell? ⟨gb,0,none⟩ = some (.slice (some ad1) x.f0.length d0) ∧ w'.cell? (ad1.add q) = some (.int .i64 y) ∧ w'.cell? (ad3.add (y.toNat * 4)) = some (.int .i64 z.f0) ∧ w'.cell? ⟨(ad3.add (y.toNat * 4)).block,(ad3.add (y.toNat * 4)).off + 1,none⟩ = some (.int .i64 z.f1) ∧ w'.cell? ⟨(ad3.add (y.toNat * 4)).block,(ad3.add (y.toNat * 4)).off + 2,none⟩ = some (.int .i64 z.f2) ∧ w'.cell? ⟨(ad3.add (y.toNat * 4)).block,(ad3.add (y.toNat * 4)).off + 3,none⟩ = some (.slice B3 z.f3.length d3)) (first | with_reducible exact S7_D yy | with_reducible exact yy | with_reducible exact S7_O z _ | with_reducible exact S7_D (S7_O yy _) | fail) (fail)
      all_goals
       go_wp2_with (fail)
       go_meet
       exact ⟨_,rfl,Lib.hid (below_alloc (below_drew (Below.refl _ _)) _),Lib.hid (blk_new _ _)⟩
     case rest=>
      obtain ⟨g8,rfl,HBy,HB8⟩:=hcut
      clear yy p0t p1t
      have HBn:=Lib.hid (below_then HBe.out HBe.out.size HBy.out)
      have x5:=cellB HBy.out x5
      clear HBy HBe
      obtain ⟨q0,q1,q2,q3⟩:=S4_blk HB8.out
      by_cases k33:z.f0 = 32
      ·have e1:(z.f0 != 32) = false:=by simp [k33]
       have K33:=Lib.hid (show (z.f0 == 32) = true by simp [k33])
       clear k33
       obtain ⟨kk,hk⟩:∃ kk,((z.f3.length:Int) == (x.f3.length:Int)) = kk:=⟨_,rfl⟩
       have hk2:((z.f3.length:Int) != (x.f3.length:Int)) = !kk:=by rw [← hk];rfl
       have HK:Hid (phiB f x.f3.length y = kk):=Lib.hid (by rw [HPB.out,K33.out,hk];rfl)
       clear hk
       cases kk
       ·have HZ:Hid (phisBlk f x = false):=Lib.hid (by unfold phisBlk;rw [HST2.out HK.out];rfl)
        go_wp2_with (fail)
        go_ret
        exact ⟨ret_bool (by unfold phisB;rw [HST.out HZ.out];rfl),Lib.hid (below_then HB.out HB.out.size (below_then HBd.out HBd.out.size HBn.out))⟩
       ·have hvb:x.f0.length ≤ 1000000000:=HXL.out.1
        go_wp2_with (fail)
        go_roundg (gk - 1)
        case measure=>have:=HQI.out;omega
        case rel=>exact ⟨q + 1,by omega,by go_num,Lib.hid (by have:=HQI.out;omega),Lib.hid (HNX2.out HK.out),HBn⟩
      ·have e1:(z.f0 != 32) = true:=by simp [k33]
       have HK:Hid (phiB f x.f3.length y = false):=Lib.hid (by rw [HPB.out,show (z.f0 == 32) = false by simp [k33]];rfl)
       have HZ:Hid (phisBlk f x = false):=Lib.hid (by unfold phisBlk;rw [HST2.out HK.out];rfl)
       clear k33
       go_wp2_with (fail)
       go_ret
       exact ⟨ret_bool (by unfold phisB;rw [HST.out HZ.out];rfl),Lib.hid (below_then HB.out HB.out.size (below_then HBd.out HBd.out.size HBn.out))⟩
    ·have hqe:q = x.f0.length:=by omega
     subst hqe
     have HA0:Hid (x.f0.all (phiB f x.f3.length) = true):=Lib.hid (by rw [HQP.out,List.drop_eq_nil_of_le (by omega)];rfl)
     clear hlq hq HQI HQP
     go_wp2_with (fail)
     go_loopg [7] x.f1.length (fun k v wr4=>∃ q:Nat,q ≤ x.f1.length ∧ v = .int .i64 q ∧ Hid (q + k = x.f1.length) ∧ Hid (x.f1.all (fun y=>opAt f y != 32) = (x.f1.drop q).all (fun y=>opAt f y != 32)) ∧ Hid (Below wc.heap.size wc wr4))
     case atStart=>exact ⟨0,by omega,rfl,Lib.hid (by omega),Lib.hid (by simp),HBe⟩
     case round=>
      clear HBe HBf y0 y1 y2 y3 y4 x0 x1 x2 x3 x4 x5
      obtain ⟨q,hq,rfl,HQI,HQP,HBe⟩:=hrel
      have HBf:=Lib.hid (below_then HBd.out HBd.out.size HBe.out)
      obtain ⟨y0,y1,y2,y3,y4⟩:=S5_blk (blkB HBf.out HBX.out)
      obtain ⟨x0,x1,x2,x3,x4,x5⟩:=S6_blk (blkB HBe.out HFc.out)
      by_cases hlq:q < x.f1.length
      ·obtain ⟨ad1,hA1,h1⟩:=Kd.at_int (Kd.C_below HC1.out HBe.out) (q:Int) (by omega) (by omega)
       have e0:rd x.f1 (q:Int) = x.f1.getD q 0:=by simp [rd]
       rw [Int.toNat_natCast,e0] at h1
       have HST2:=Lib.hid (all_stop (p:=fun y=>opAt f y != 32) (d:=0) hlq HQP.out)
       have HNX2:=Lib.hid (all_next (p:=fun y=>opAt f y != 32) (d:=0) hlq HQP.out)
       have hin:inB f.f3.length (x.f1.getD q 0) = true:=List.all_eq_true.1 HI0.out.2 _ (mem_getD 0 hlq)
       have HST3:Hid (¬ (rd_T42 f.f3 (x.f1.getD q 0)).f0 ≠ 32 → x.f1.all (fun y=>opAt f y != 32) = false):=Lib.hid (fun h=>HST2.out (by unfold opAt;simpa using h))
       have HNX3:Hid ((rd_T42 f.f3 (x.f1.getD q 0)).f0 ≠ 32 → x.f1.all (fun y=>opAt f y != 32) = (x.f1.drop (q + 1)).all (fun y=>opAt f y != 32)):=Lib.hid (fun h=>HNX2.out (by unfold opAt;simpa using h))
       clear HST2 HNX2 e0
       generalize x.f1.getD q 0 = y at *
       have p0:0 ≤ y:=by simp [inB] at hin;omega
       have p1:y < (f.f3.length:Int):=by simp [inB] at hin;omega
       clear hin
       obtain ⟨ad3,B3,d3,hA3,q0,q1,q2,q3,q4,q5⟩:=at_T42 (Kd.C_below HF1.out.r3 HBf.out) y p0 p1
       subst hA1 hA3
       clear q1 q2 q3 q4 q5
       by_cases k33:(rd_T42 f.f3 y).f0 = 32
       ·have e1:((rd_T42 f.f3 y).f0 == 32) = true:=by simp [k33]
        have HZ:Hid (phisBlk f x = false):=Lib.hid (by unfold phisBlk;rw [HST3.out (by simp [k33])];simp)
        clear k33
        go_upto_region 14 with (fail)
        go_quiet (fail)
        go_wp2_with (fail)
        go_ret
        exact ⟨ret_bool (by unfold phisB;rw [HST.out HZ.out];rfl),Lib.hid (pw_below_drewN (below_then HB.out HB.out.size HBf.out) _)⟩
       ·have e1:((rd_T42 f.f3 y).f0 == 32) = false:=by simp [k33]
        have HZ:=Lib.hid (HNX3.out k33)
        clear k33
        have hvb:x.f1.length ≤ 1000000000:=HXL.out.2.1
        go_upto_region 14 with (fail)
        go_quiet (fail)
        go_wp2_with (fail)
        go_roundg (gk - 1)
        case measure=>have:=HQI.out;omega
        case rel=>exact ⟨q + 1,by omega,by go_num,Lib.hid (by have:=HQI.out;omega),HZ,Lib.hid (pw_below_drewN HBe.out _)⟩
      ·have hqe:q = x.f1.length:=by omega
       subst hqe
       have HA1:Hid (x.f1.all (fun y=>opAt f y != 32) = true):=Lib.hid (by rw [HQP.out,List.drop_eq_nil_of_le (by omega)];rfl)
       clear hlq hq HQI HQP
       have hvb:=HL.out.b
       have HZ:Hid (phisBlk f x = true):=Lib.hid (by unfold phisBlk;rw [HA0.out,HA1.out];rfl)
       go_wp2_with (fail)
       go_roundg (go - 1)
       case measure=>have:=HI.out;omega
       case rel=>exact ⟨i + 1,by omega,by go_num,Lib.hid (by have:=HI.out;omega),Lib.hid (HNX.out HZ.out),HBf⟩
  ·have hie:i = f.f4.length:=by omega
   subst hie
   have HBK:Hid (f.f4.all (phisBlk f) = true):=Lib.hid (by rw [HP.out,List.drop_eq_nil_of_le (by omega)];rfl)
   clear hlt hi HI HP
   have h0:((0:Nat):Int) < (f.f4.length:Int):=by have:=HR.out.blk;omega
   obtain ⟨ad,B0,d0,B1,d1,B4,d4,B5,d5,eA,x0,x1,x2,x3,x4,x5,l0,r0,l1,r1,l4,r4,l5,r5⟩:=at_T46 (Kd.C_below HF1.out.r4 HBr.out) ((0:Nat):Int) (by omega) h0
   have hx0:rd_T46 f.f4 ((0:Nat):Int) = f.f4.getD 0 z46:=by simp [rd_T46]
   rw [hx0] at x0
   have e0:ad.add (((0:Nat):Int).toNat * 6) = ad:=by unfold Addr.add;simp
   rw [e0] at x0
   have h0':(0:Int) < (f.f4.length:Int):=h0
   have h0t:=eq_true h0'
   have h0n:0 < f.f4.length:=by omega
   have HPH:Hid (phisB f = (((f.f4.getD 0 z46).f0.length:Int) == 0)):=Lib.hid (by unfold phisB;rw [HBK.out];rfl)
   generalize f.f4.getD 0 z46 = x at *
   subst eA
   clear x1 x2 x3 x4 x5 l0 r0 l1 r1 l4 r4 l5 r5 hx0
   go_wp2_with (fail)
   go_ret
   exact ⟨ret_bool (by rw [HPH.out]),Lib.hid (below_then HB.out HB.out.size HBr.out)⟩
end Go.Proofs.Ytgbeliajhccndaa
end
section
set_option linter.unusedVariables false
set_option linter.unusedSimpArgs false
namespace Go.Proofs.Ytgbeliajhccndaa
open Go.RowKit Go.Proofs.YtgbeliajhccndaaW.PrintWords Go.Proofs.YtgbeliajhccndaaW.PrintLast Go.Proofs.YtgbeliajhccndaaW.PrintMore PP
structure PlW (w:World) (g n:Nat) (s:Tri):Prop where
 ex:∃ cs:Array Value,w.heap[g]? = some (.cells cs 87 (0,0)) ∧ cs.size = n * 3 ∧ ∀ v,v < n → cs[v * 3]? = some (.int .i64 (s.1.getD v 0)) ∧ cs[v * 3 + 1]? = some (.int .i64 (s.2.1.getD v 0)) ∧ cs[v * 3 + 2]? = some (.int .i64 (s.2.2.getD v 0))
 l1:s.1.length = n
 l2:s.2.1.length = n
 l3:s.2.2.length = n
section
variable {w W:World} {g n:Nat} {s:Tri}
theorem PlW.below (h:PlW w g n s) (hb:Below w.heap.size w W):PlW W g n s:=by
 obtain ⟨⟨cs,h1,h2,h3⟩,a,b,c⟩:=h
 exact ⟨⟨cs,blkB hb h1,h2,h3⟩,a,b,c⟩
theorem PlW.lt (h:PlW w g n s):g < w.heap.size:=by obtain ⟨⟨cs,h1,h2,h3⟩,_⟩:=h;exact blk_lt h1
theorem PlW.cell (h:PlW w g n s) {v:Nat} (hv:v < n):w.cell? ⟨g,v * 3,none⟩ = some (.int .i64 (s.1.getD v 0)) ∧ w.cell? ⟨g,v * 3 + 1,none⟩ = some (.int .i64 (s.2.1.getD v 0)) ∧ w.cell? ⟨g,v * 3 + 2,none⟩ = some (.int .i64 (s.2.2.getD v 0)):=by
 obtain ⟨⟨cs,h1,h2,h3⟩,_⟩:=h
 obtain ⟨a,b,c⟩:=h3 v hv
 exact ⟨by rw [blk_cell h1];exact a,by rw [blk_cell h1];exact b,by rw [blk_cell h1];exact c⟩
theorem PlW.frozen (h:PlW w g n s) (i:Nat):w.frozen? ⟨g,i,none⟩ = false:=by obtain ⟨⟨cs,h1,h2,h3⟩,_⟩:=h;exact blk_frozen h1 i
theorem getD_set {l:List Int} {i v:Nat} {x:Int} (hi:i < l.length):(l.set i x).getD v 0 = if v = i then x else l.getD v 0:=by
 simp only [List.getD_eq_getElem?_getD,List.getElem?_set]
 by_cases h:i = v
 ·subst h;simp [hi]
 ·rw [if_neg h,if_neg (fun e=>h e.symm)]
theorem PlW.set (h:PlW w g n s) {v:Nat} (hv:v < n) (b k t:Int):PlW (((w.setCell ⟨g,v * 3,none⟩ (.int .i64 b)).setCell ⟨g,v * 3 + 1,none⟩ (.int .i64 k)).setCell ⟨g,v * 3 + 2,none⟩ (.int .i64 t)) g n (s.1.set v b,s.2.1.set v k,s.2.2.set v t):=by
 obtain ⟨⟨cs,h1,h2,h3⟩,a,b',c⟩:=h
 refine ⟨⟨_,blk_set (blk_set (blk_set h1 (v * 3) (.int .i64 b)) (v * 3 + 1) (.int .i64 k)) (v * 3 + 2) (.int .i64 t),by simp [h2],fun u hu=>?_⟩,by simp [a],by simp [b'],by simp [c]⟩
 obtain ⟨e1,e2,e3⟩:=h3 u hu
 rw [getD_set (by omega),getD_set (by omega),getD_set (by omega)]
 by_cases hc:u = v
 ·subst hc
  simp [Array.getElem?_setIfInBounds,h2,if_pos]
  omega
 ·rw [if_neg hc,if_neg hc,if_neg hc]
  simp only [Array.getElem?_setIfInBounds]
  refine ⟨?_,?_,?_⟩
  ·rw [if_neg (by omega),if_neg (by omega),if_neg (by omega)];exact e1
  ·rw [if_neg (by omega),if_neg (by omega),if_neg (by omega)];exact e2
  ·rw [if_neg (by omega),if_neg (by omega),if_neg (by omega)];exact e3
end
def iniT (n:Nat):Tri:=(List.replicate n (-2),List.replicate n (-1),List.replicate n 0)
def rplT (f:S38):Tri:=putBs (putL (-1) (iniT f.f3.length) f.f1) 0 f.f4
theorem ini_of {s:Tri} {n:Nat} (h1:s.1.length = n) (h2:s.2.1.length = n) (h3:s.2.2.length = n) (h:∀ v,v < n → s.1.getD v 0 = -2 ∧ s.2.1.getD v 0 = -1 ∧ s.2.2.getD v 0 = 0):s = iniT n:=by
 obtain ⟨a,b,c⟩:=s
 dsimp only at h1 h2 h3 h
 unfold iniT
 have key:∀ (l:List Int) (x:Int),l.length = n → (∀ v,v < n → l.getD v 0 = x) → l = List.replicate n x:=fun l x hl hx=>by
  refine List.ext_getElem (by simp [hl]) (fun i h1 h2=>?_)
  have:=hx i (by omega)
  rw [List.getD_eq_getElem?_getD,List.getElem?_eq_getElem h1] at this
  simpa using this
 rw [key a _ h1 (fun v hv=>(h v hv).1),key b _ h2 (fun v hv=>(h v hv).2.1),key c _ h3 (fun v hv=>(h v hv).2.2)]
theorem info87:(Try.prog.info? 87).map (fun i=>(i.zero,i.size,i.bytes)) = some (some (.agg #[.int .i64 0,.int .i64 0,.int .i64 0]),3,24):=by kernel_rfl
def plC (n:Nat):Array Value:=madeCells (Value.agg #[.int .i64 0,.int .i64 0,.int .i64 0]).cells (n * 3)
theorem plmake_at {n:Nat} (hn:n ≤ 1000000000) (W:World):(Instr.makeSlice 84 (.int .i64 (n:Int)) (.int .i64 (n:Int))).run Try.prog W = .ok (.slice (some ⟨W.heap.size,0,none⟩) n n) (W.alloc (.cells (plC n) 87)):=by
 obtain ⟨i0,hi,hz,hs,hb⟩:=info_parts info87
 have h:=run_make (P:=Try.prog) W 84 87 i0 _ Try.underlying84 hi hz .i64 .i64 (n:Int) (n:Int) (by omega) (by omega) (by rw [hb];omega) (by omega)
 rw [hs,Int.toNat_natCast] at h
 exact h
theorem plC_get {n i:Nat} (hi:i < n * 3):(plC n)[i]? = some (.int .i64 0):=by
 unfold plC madeCells
 have h3:i % 3 = 0 ∨ i % 3 = 1 ∨ i % 3 = 2:=by omega
 have e:(Value.agg #[.int .i64 0,.int .i64 0,.int .i64 0]).cells = #[.int .i64 0,.int .i64 0,.int .i64 0]:=rfl
 rw [e]
 simp only [Array.getElem?_map,Array.getElem?_range,if_pos hi,Option.map_some]
 have e2:(#[Value.int .i64 0,.int .i64 0,.int .i64 0]:Array Value).size = 3:=rfl
 rw [e2]
 rcases h3 with h | h | h <;> rw [h] <;> rfl
theorem PlW.made {w:World} {g n:Nat} (h:w.heap[g]? = some (.cells (plC n) 87 (0,0))):PlW w g n (List.replicate n 0,List.replicate n 0,List.replicate n 0):=
 ⟨⟨plC n,h,by unfold plC;rw [size_madeCells],fun v hv=>by
   have e:(List.replicate n (0:Int)).getD v 0 = 0:=by simp [List.getD_eq_getElem?_getD,hv]
   refine ⟨?_,?_,?_⟩ <;> (show _ = some (Value.int .i64 ((List.replicate n (0:Int)).getD v 0));rw [e];exact plC_get (by omega))⟩,by simp,by simp,by simp⟩
attribute [irreducible] plC
structure PlS (w0 w1 wr:World) (g n:Nat) (s:Tri):Prop where
 below:Below w1.heap.size w1 wr
 pl:PlW wr g n s
 ge:w1.heap.size ≤ g
section
variable {w0 w1 wr W:World} {g n:Nat} {s:Tri}
theorem PlS.then_ (h:PlS w0 w1 wr g n s) (hb:Below wr.heap.size wr W):PlS w0 w1 W g n s:=⟨below_then h.below h.below.size hb,h.pl.below hb,h.ge⟩
theorem PlS.set (h:PlS w0 w1 wr g n s) {v:Nat} (hv:v < n) (b k t:Int):PlS w0 w1 (((wr.setCell ⟨g,v * 3,none⟩ (.int .i64 b)).setCell ⟨g,v * 3 + 1,none⟩ (.int .i64 k)).setCell ⟨g,v * 3 + 2,none⟩ (.int .i64 t)) g n (s.1.set v b,s.2.1.set v k,s.2.2.set v t):=
 ⟨below_set (below_set (below_set h.below h.ge) h.ge) h.ge,h.pl.set hv b k t,h.ge⟩
end
structure QW (w0 w1 wr:World) (g gb n:Nat) (bc:Array Value) (s:Tri):Prop where
 pls:PlS w0 w1 wr g n s
 bk:wr.heap[gb]? = some (.cells bc 46 (0,0))
 ne:gb ≠ g
 ge:w1.heap.size ≤ gb
section
variable {w0 w1 wr W:World} {g gb n:Nat} {bc:Array Value} {s:Tri}
theorem QW.then_ (h:QW w0 w1 wr g gb n bc s) (hb:Below wr.heap.size wr W):QW w0 w1 W g gb n bc s:=⟨h.pls.then_ hb,blkB hb h.bk,h.ne,h.ge⟩
theorem QW.set (h:QW w0 w1 wr g gb n bc s) {v:Nat} (hv:v < n) (b k t:Int):QW w0 w1 (((wr.setCell ⟨g,v * 3,none⟩ (.int .i64 b)).setCell ⟨g,v * 3 + 1,none⟩ (.int .i64 k)).setCell ⟨g,v * 3 + 2,none⟩ (.int .i64 t)) g gb n bc (s.1.set v b,s.2.1.set v k,s.2.2.set v t):=
 ⟨h.pls.set hv b k t,blk_far (blk_far (blk_far h.bk h.ne _) h.ne _) h.ne _,h.ne,h.ge⟩
end
theorem S2_Dd {w:World} {a b:Addr} {v0 v1:Value} (z:w.cell? a = some v0 ∧ w.cell? b = some v1):w.drew.cell? a = some v0 ∧ w.drew.cell? b = some v1:=z
set_option maxRecDepth 100000 in
set_option maxHeartbeats 4000000 in
theorem rPlaces_any (f:S38) (A1:Option Addr) (c1:Nat) (A3:Option Addr) (c3:Nat) (A4:Option Addr) (c4:Nat) (w:World) (hf:FA w f A1 c1 A3 c3 A4 c4) (hL:LimF f) (hR:Rng f) :
 Calls Try.prog 56 #[.agg #[.string f.f0,.slice A1 f.f1.length c1,.int .i64 f.f2,.slice A3 f.f3.length c3,.slice A4 f.f4.length c4]] w fun e W=>∃ g,e = .returned (.slice (some ⟨g,0,none⟩) f.f3.length f.f3.length) ∧ w.heap.size ≤ g ∧ Hid (PlW W g f.f3.length (rplT f)) ∧ Hid (Below w.heap.size w W):=by
 have HL:=Lib.hid hL
 have HR:=Lib.hid hR
 have HFA:=Lib.hid hf
 clear hf hL hR
 go_enter Try.func56,Try.ntmps56
 go_upto_region 1 with (fail)
 obtain ⟨w1,hw1⟩:∃ w1,w1 = w.alloc (.cells #[.string f.f0,.slice A1 f.f1.length c1,.int .i64 f.f2,.slice A3 f.f3.length c3,.slice A4 f.f4.length c4] 38):=⟨_,rfl⟩
 obtain ⟨g3,hg3⟩:∃ g,g = w.heap.size:=⟨_,rfl⟩
 have hbx:w1.heap[g3]? = some (.cells #[.string f.f0,.slice A1 f.f1.length c1,.int .i64 f.f2,.slice A3 f.f3.length c3,.slice A4 f.f4.length c4] 38 (0,0)):=by rw [hw1,hg3];exact blk_new w _
 have hB:Below w.heap.size w w1:=by rw [hw1];exact below_alloc (Below.refl _ _) _
 rw [← hg3,← hw1]
 have HBX:=Lib.hid hbx
 have HB:=Lib.hid hB
 have HF1:=Lib.hid (HFA.out.below hB)
 obtain ⟨y0,y1,y2,y3,y4⟩:=S5_blk hbx
 clear hw1 hg3 hbx hB HFA
 have HMK:=Lib.hid (plmake_at HL.out.v w1)
 have hmk:=HMK.out
 go_upto_region 3 with (fail)
 obtain ⟨wa,hwa⟩:∃ wa,wa = w1.alloc (.cells (plC f.f3.length) 87):=⟨_,rfl⟩
 obtain ⟨g,hg⟩:∃ g,g = w1.heap.size:=⟨_,rfl⟩
 have HS0:Hid (PlS w w1 wa g f.f3.length (List.replicate f.f3.length 0,List.replicate f.f3.length 0,List.replicate f.f3.length 0)):=Lib.hid ⟨by rw [hwa];exact below_alloc (Below.refl _ _) _,PlW.made (by rw [hwa,hg];exact blk_new _ _),by omega⟩
 have HGW:Hid (w.heap.size ≤ g):=Lib.hid (by have:=HB.out.size;omega)
 rw [← hg,← hwa]
 clear hwa hg hmk HMK y0 y1 y2 y3 y4
 go_loopg [4] f.f3.length (fun k v4 wr=>∃ (i:Nat) (s:Tri),i ≤ f.f3.length ∧ v4 = .int .i64 i ∧ Hid (i + k = f.f3.length) ∧ Hid (∀ v,v < i → s.1.getD v 0 = -2 ∧ s.2.1.getD v 0 = -1 ∧ s.2.2.getD v 0 = 0) ∧ Hid (PlS w w1 wr g f.f3.length s))
 case atStart=>exact ⟨0,_,by omega,rfl,Lib.hid (by omega),Lib.hid (by intro v hv;omega),HS0⟩
 case round=>
  clear HS0
  obtain ⟨i,s,hi,rfl,HI,HV,HS⟩:=hrel
  by_cases hlt:i < f.f3.length
  ·have u0:=HS.out.pl.frozen (i * 3)
   have u1:=HS.out.pl.frozen (i * 3 + 1)
   have u2:=HS.out.pl.frozen (i * 3 + 2)
   obtain ⟨z0,z1,z2⟩:=HS.out.pl.cell hlt
   have HS2:=Lib.hid (HS.out.set hlt (-2) (-1) 0)
   have HV2:Hid (∀ v,v < i + 1 → (s.1.set i (-2)).getD v 0 = -2 ∧ (s.2.1.set i (-1)).getD v 0 = -1 ∧ (s.2.2.set i 0).getD v 0 = 0):=Lib.hid (fun v hv=>by
    have a1:=HS.out.pl.l1
    have a2:=HS.out.pl.l2
    have a3:=HS.out.pl.l3
    rw [getD_set (by omega),getD_set (by omega),getD_set (by omega)]
    by_cases e:v = i
    ·rw [if_pos e,if_pos e,if_pos e];exact ⟨rfl,rfl,rfl⟩
    ·rw [if_neg e,if_neg e,if_neg e];exact HV.out v (by omega))
   have hvb:=HL.out.v
   go_wp2_with (fail)
   go_roundg (gk - 1)
   case measure=>have:=HI.out;omega
   case rel=>exact ⟨i + 1,_,by omega,by go_num,Lib.hid (by have:=HI.out;omega),HV2,HS2⟩
  ·have hie:i = f.f3.length:=by omega
   have hs:s = iniT f.f3.length:=ini_of HS.out.pl.l1 HS.out.pl.l2 HS.out.pl.l3 (fun v hv=>HV.out v (by omega))
   subst hie hs
   clear hlt hi HI HV
   obtain ⟨PL,hPL⟩:∃ PL,PL = putL (-1) (iniT f.f3.length) f.f1:=⟨_,rfl⟩
   have HPL:=Lib.hid hPL
   go_wp2_with (fail)
   go_loopg [5] f.f1.length (fun k v5 wr=>∃ (i:Nat) (s:Tri),i ≤ f.f1.length ∧ v5 = .int .i64 i ∧ Hid (i + k = f.f1.length) ∧ Hid (PL = putL (-1) s (f.f1.drop i)) ∧ Hid (PlS w w1 wr g f.f3.length s))
   case atStart=>exact ⟨0,_,by omega,rfl,Lib.hid (by omega),Lib.hid hPL,HS⟩
   case round=>
    clear HS hPL
    obtain ⟨i,s,hi,rfl,HI,HP,HS⟩:=hrel
    obtain ⟨y0,y1,y2,y3,y4⟩:=S5_blk (blkB HS.out.below HBX.out)
    by_cases hlt:i < f.f1.length
    ·obtain ⟨ad1,hA1,h1⟩:=Kd.at_int (Kd.C_below HF1.out.r1 HS.out.below) (i:Int) (by omega) (by omega)
     have e0:rd f.f1 (i:Int) = f.f1.getD i 0:=by simp [rd]
     rw [Int.toNat_natCast,e0] at h1
     have HNX:=Lib.hid (putL_step hlt HP.out)
     have hin:inB f.f3.length (f.f1.getD i 0) = true:=List.all_eq_true.1 HR.out.par _ (mem_getD 0 hlt)
     clear e0
     generalize f.f1.getD i 0 = y at *
     subst hA1
     have hvb:=HL.out.p
     have p0:0 ≤ y:=by simp [inB] at hin;omega
     have p1:y < (f.f3.length:Int):=by simp [inB] at hin;omega
     have pn:y.toNat < f.f3.length:=by omega
     have p0t:=eq_true p0
     have p1t:=eq_true p1
     obtain ⟨z0,z1,z2⟩:=HS.out.pl.cell pn
     have z0d:=cellD z0
     have z1d:=cellD z1
     have z2d:=cellD z2
     have u0:=HS.out.pl.frozen (y.toNat * 3)
     have u1:=HS.out.pl.frozen (y.toNat * 3 + 1)
     have u2:=HS.out.pl.frozen (y.toNat * 3 + 2)
     have u0d:wr.drew.frozen? ⟨g,y.toNat * 3,none⟩ = false:=u0
     have u1d:wr.drew.frozen? ⟨g,y.toNat * 3 + 1,none⟩ = false:=u1
     have u2d:wr.drew.frozen? ⟨g,y.toNat * 3 + 2,none⟩ = false:=u2
     have HSN:Hid (PlS w w1 ((((wr.setCell ⟨g,y.toNat * 3,none⟩ (.int .i64 (-1))).setCell ⟨g,y.toNat * 3 + 1,none⟩ (.int .i64 (-1))).setCell ⟨g,y.toNat * 3 + 2,none⟩ (.int .i64 (wrap64 (s.2.2.getD y.toNat 0 + 1)))).drew) g f.f3.length (put3 s y (-1) (-1))):=Lib.hid ((HS.out.set pn (-1) (-1) _).then_ (below_drew (Below.refl _ _)))
     clear p0 p1 pn hin
     go_upto_region 9 with (fail)
     go_region
     go_wp2_with (fail)
     go_roundg (gk - 1)
     case measure=>have:=HI.out;omega
     case rel=>exact ⟨i + 1,_,by omega,by go_num,Lib.hid (by have:=HI.out;omega),HNX,HSN⟩
    ·have hie:i = f.f1.length:=by omega
     subst hie
     have HT:Hid (rplT f = putBs s ((0:Nat):Int) (f.f4.drop 0)):=Lib.hid (by
      unfold rplT
      rw [← HPL.out,HP.out,List.drop_eq_nil_of_le (by omega)]
      rfl)
     clear hlt hi HI HP HPL
     go_wp2_with (fail)
     go_loopg [6] f.f4.length (fun k v6 wr=>∃ (i:Nat) (s:Tri),i ≤ f.f4.length ∧ v6 = .int .i64 i ∧ Hid (i + k = f.f4.length) ∧ Hid (rplT f = putBs s (i:Int) (f.f4.drop i)) ∧ Hid (PlS w w1 wr g f.f3.length s))
     case atStart=>exact ⟨0,s,by omega,rfl,Lib.hid (by omega),HT,HS⟩
     case round=>
      clear HS HT y0 y1 y2 y3 y4
      obtain ⟨i,s,hi,rfl,HI,HP,HS⟩:=hrel
      obtain ⟨y0,y1,y2,y3,y4⟩:=S5_blk (blkB HS.out.below HBX.out)
      by_cases hlt:i < f.f4.length
      ·obtain ⟨ad,B0,d0,B1,d1,B4,d4,B5,d5,eA,x0,x1,x2,x3,x4,x5,l0,r0,l1,r1,l4,r4,l5,r5⟩:=at_T46 HF1.out.r4 (i:Int) (by omega) (by omega)
       have hx0:rd_T46 f.f4 (i:Int) = f.f4.getD i z46:=by simp [rd_T46]
       have HNX:=Lib.hid (putBs_step hlt HP.out)
       rw [Int.toNat_natCast] at x0 x1 x2 x3 x4 x5
       have x0:=cellB HS.out.below x0
       have x1:=cellB HS.out.below x1
       have x2:=cellB HS.out.below x2
       have x3:=cellB HS.out.below x3
       have x4:=cellB HS.out.below x4
       have x5:=cellB HS.out.below x5
       have hxm:rd_T46 f.f4 (i:Int) ∈ f.f4:=by rw [hx0];exact mem_getD z46 hlt
       rw [← hx0] at HNX
       clear hx0
       generalize rd_T46 f.f4 (i:Int) = x at *
       have HXL:=Lib.hid (HL.out.q x hxm)
       have HI0:Hid (x.f0.all (inB f.f3.length) = true ∧ x.f1.all (inB f.f3.length) = true):=Lib.hid ⟨HR.out.phi x hxm,HR.out.bod x hxm⟩
       have HE0:=Lib.hid r0
       have HE1:=Lib.hid r1
       subst eA
       clear hxm r0 r1 r4 r5 l0 l1 l4 l5
       go_upto_region 14 with (fail)
       obtain ⟨wc,hwc⟩:∃ wc,wc = wr.alloc (.cells #[.slice B0 x.f0.length d0,.slice B1 x.f1.length d1,.int .i64 x.f2.f0,.int .i64 x.f2.f1,.slice B4 x.f2.f2.length d4,.slice B5 x.f3.length d5] 46):=⟨_,rfl⟩
       obtain ⟨gb,hgb⟩:∃ gb,gb = wr.heap.size:=⟨_,rfl⟩
       have hBb:Below wr.heap.size wr wc:=by rw [hwc];exact below_alloc (Below.refl _ _) _
       have hFb:wc.heap[gb]? = some (.cells #[.slice B0 x.f0.length d0,.slice B1 x.f1.length d1,.int .i64 x.f2.f0,.int .i64 x.f2.f1,.slice B4 x.f2.f2.length d4,.slice B5 x.f3.length d5] 46 (0,0)):=by rw [hwc,hgb];exact blk_new wr _
       rw [← hgb,← hwc]
       have HSc:=Lib.hid (HS.out.then_ hBb)
       obtain ⟨bc,hbc⟩:∃ bc:Array Value,bc = #[.slice B0 x.f0.length d0,.slice B1 x.f1.length d1,.int .i64 x.f2.f0,.int .i64 x.f2.f1,.slice B4 x.f2.f2.length d4,.slice B5 x.f3.length d5]:=⟨_,rfl⟩
       have HBC:=Lib.hid hbc
       rw [← hbc] at hFb
       have HQ0:Hid (QW w w1 wc g gb f.f3.length bc s):=Lib.hid ⟨HSc.out,hFb,by have:=HS.out.pl.lt;omega,by have:=HS.out.below.size;omega⟩
       clear hbc hwc hgb hBb hFb x0 x1 x2 x3 x4 x5 y0 y1 y2 y3 y4
       generalize wr = wi at *
       generalize gk = go at *
       obtain ⟨P0,hP0⟩:∃ P,P = putL (i:Int) s x.f0:=⟨_,rfl⟩
       have HP0:=Lib.hid hP0
       rw [← hP0] at HNX
       go_wp2_with (fail)
       go_loopg [8] x.f0.length (fun k v wr4=>∃ (q:Nat) (s:Tri),q ≤ x.f0.length ∧ v = .int .i64 q ∧ Hid (q + k = x.f0.length) ∧ Hid (P0 = putL (i:Int) s (x.f0.drop q)) ∧ Hid (QW w w1 wr4 g gb f.f3.length bc s))
       case atStart=>exact ⟨0,s,by omega,rfl,Lib.hid (by omega),Lib.hid hP0,HQ0⟩
       case round=>
        clear HQ0 hP0
        obtain ⟨q,t,hq,rfl,HQI,HQP,HQ⟩:=hrel
        have HS:=Lib.hid HQ.out.pls
        have hqk:=HQ.out.bk
        rw [HBC.out] at hqk
        obtain ⟨x0,x1,x2,x3,x4,x5⟩:=S6_blk hqk
        clear hqk
        by_cases hlq:q < x.f0.length
        ·obtain ⟨ad1,hA1,h1⟩:=Kd.at_int (Kd.C_below HE0.out HQ.out.pls.below) (q:Int) (by omega) (by omega)
         have e0:rd x.f0 (q:Int) = x.f0.getD q 0:=by simp [rd]
         rw [Int.toNat_natCast,e0] at h1
         have HN2:=Lib.hid (putL_step hlq HQP.out)
         have hin:inB f.f3.length (x.f0.getD q 0) = true:=List.all_eq_true.1 HI0.out.1 _ (mem_getD 0 hlq)
         clear e0
         generalize x.f0.getD q 0 = y at *
         subst hA1
         have hvb:x.f0.length ≤ 1000000000:=HXL.out.1
         have p0:0 ≤ y:=by simp [inB] at hin;omega
         have p1:y < (f.f3.length:Int):=by simp [inB] at hin;omega
         have pn:y.toNat < f.f3.length:=by omega
         have p0t:=eq_true p0
         have p1t:=eq_true p1
         obtain ⟨z0,z1,z2⟩:=HS.out.pl.cell pn
         have z0d:=cellD z0
         have z1d:=cellD z1
         have z2d:=cellD z2
         have u0:=HS.out.pl.frozen (y.toNat * 3)
         have u1:=HS.out.pl.frozen (y.toNat * 3 + 1)
         have u2:=HS.out.pl.frozen (y.toNat * 3 + 2)
         have u0d:wr.drew.frozen? ⟨g,y.toNat * 3,none⟩ = false:=u0
         have u1d:wr.drew.frozen? ⟨g,y.toNat * 3 + 1,none⟩ = false:=u1
         have u2d:wr.drew.frozen? ⟨g,y.toNat * 3 + 2,none⟩ = false:=u2
         have HQN:Hid (QW w w1 ((((wr.setCell ⟨g,y.toNat * 3,none⟩ (.int .i64 (i:Int))).setCell ⟨g,y.toNat * 3 + 1,none⟩ (.int .i64 (-1))).setCell ⟨g,y.toNat * 3 + 2,none⟩ (.int .i64 (wrap64 (t.2.2.getD y.toNat 0 + 1)))).drew) g gb f.f3.length bc (put3 t y (i:Int) (-1))):=Lib.hid ((HQ.out.set pn (i:Int) (-1) _).then_ (below_drew (Below.refl _ _)))
         clear p0 p1 pn hin
         go_upto_region 17 with (fail)
         go_region
         go_wp2_with (fail)
         go_roundg (gk - 1)
         case measure=>have:=HQI.out;omega
         case rel=>exact ⟨q + 1,_,by omega,by go_num,Lib.hid (by have:=HQI.out;omega),HN2,HQN⟩
        ·have hqe:q = x.f0.length:=by omega
         subst hqe
         have HPT:Hid (P0 = t):=Lib.hid (by rw [HQP.out,List.drop_eq_nil_of_le (by omega)];rfl)
         obtain ⟨P1,hP1⟩:∃ P,P = putK (i:Int) t 0 x.f1:=⟨_,rfl⟩
         have HP1:=Lib.hid hP1
         clear hlq hq HQI HQP
         go_wp2_with (fail)
         go_loopg [9] x.f1.length (fun k v wr4=>∃ (q:Nat) (s:Tri),q ≤ x.f1.length ∧ v = .int .i64 q ∧ Hid (q + k = x.f1.length) ∧ Hid (P1 = putK (i:Int) s (q:Int) (x.f1.drop q)) ∧ Hid (QW w w1 wr4 g gb f.f3.length bc s))
         case atStart=>exact ⟨0,t,by omega,rfl,Lib.hid (by omega),Lib.hid hP1,HQ⟩
         case round=>
          clear HQ HS hP1 x0 x1 x2 x3 x4 x5
          obtain ⟨q,u,hq,rfl,HQI,HQP,HQ⟩:=hrel
          have HS:=Lib.hid HQ.out.pls
          have hqk:=HQ.out.bk
          rw [HBC.out] at hqk
          obtain ⟨x0,x1,x2,x3,x4,x5⟩:=S6_blk hqk
          clear hqk
          by_cases hlq:q < x.f1.length
          ·obtain ⟨ad1,hA1,h1⟩:=Kd.at_int (Kd.C_below HE1.out HQ.out.pls.below) (q:Int) (by omega) (by omega)
           have e0:rd x.f1 (q:Int) = x.f1.getD q 0:=by simp [rd]
           rw [Int.toNat_natCast,e0] at h1
           have HN2:=Lib.hid (putK_step hlq HQP.out)
           have hin:inB f.f3.length (x.f1.getD q 0) = true:=List.all_eq_true.1 HI0.out.2 _ (mem_getD 0 hlq)
           clear e0
           generalize x.f1.getD q 0 = y at *
           subst hA1
           have hvb:x.f1.length ≤ 1000000000:=HXL.out.2.1
           have p0:0 ≤ y:=by simp [inB] at hin;omega
           have p1:y < (f.f3.length:Int):=by simp [inB] at hin;omega
           have pn:y.toNat < f.f3.length:=by omega
           have p0t:=eq_true p0
           have p1t:=eq_true p1
           obtain ⟨z0,z1,z2⟩:=HS.out.pl.cell pn
           have z0d:=cellD z0
           have z1d:=cellD z1
           have z2d:=cellD z2
           have u0:=HS.out.pl.frozen (y.toNat * 3)
           have u1:=HS.out.pl.frozen (y.toNat * 3 + 1)
           have u2:=HS.out.pl.frozen (y.toNat * 3 + 2)
           have u0d:wr.drew.frozen? ⟨g,y.toNat * 3,none⟩ = false:=u0
           have u1d:wr.drew.frozen? ⟨g,y.toNat * 3 + 1,none⟩ = false:=u1
           have u2d:wr.drew.frozen? ⟨g,y.toNat * 3 + 2,none⟩ = false:=u2
           have HQN:Hid (QW w w1 ((((wr.setCell ⟨g,y.toNat * 3,none⟩ (.int .i64 (i:Int))).setCell ⟨g,y.toNat * 3 + 1,none⟩ (.int .i64 (q:Int))).setCell ⟨g,y.toNat * 3 + 2,none⟩ (.int .i64 (wrap64 (u.2.2.getD y.toNat 0 + 1)))).drew) g gb f.f3.length bc (put3 u y (i:Int) (q:Int))):=Lib.hid ((HQ.out.set pn (i:Int) (q:Int) _).then_ (below_drew (Below.refl _ _)))
           clear p0 p1 pn hin
           go_upto_region 21 with (fail)
           go_region
           go_wp2_with (fail)
           go_roundg (gk - 1)
           case measure=>have:=HQI.out;omega
           case rel=>exact ⟨q + 1,_,by omega,by go_num,Lib.hid (by have:=HQI.out;omega),HN2,HQN⟩
          ·have hqe:q = x.f1.length:=by omega
           subst hqe
           have HPU:Hid (P1 = u):=Lib.hid (by rw [HQP.out,List.drop_eq_nil_of_le (by omega)];rfl)
           have HNN:Hid (rplT f = putBs u ((i + 1:Nat):Int) (f.f4.drop (i + 1))):=Lib.hid (by
            have h:=HNX.out
            rw [HPT.out,← HP1.out,HPU.out] at h
            exact h)
           clear hlq hq HQI HQP
           have hvb:=HL.out.b
           go_wp2_with (fail)
           go_roundg (go - 1)
           case measure=>have:=HI.out;omega
           case rel=>exact ⟨i + 1,u,by omega,by go_num,Lib.hid (by have:=HI.out;omega),HNN,HS⟩
      ·have hie:i = f.f4.length:=by omega
       subst hie
       have HT:Hid (rplT f = s):=Lib.hid (by rw [HP.out,List.drop_eq_nil_of_le (by omega)];rfl)
       clear hlt hi HI HP
       go_wp2_with (fail)
       go_ret
       exact ⟨g,rfl,HGW.out,Lib.hid (by rw [HT.out];exact HS.out.pl),Lib.hid (below_then HB.out HB.out.size HS.out.below)⟩
end Go.Proofs.Ytgbeliajhccndaa
end
