/- Lemmas of this claim (YM,YN,YO). -/
import Derived.Test.YtgbeliajhccndaaKAI
section
set_option linter.unusedVariables false
set_option linter.unusedSimpArgs false
namespace Go.Proofs.Ytgbeliajhccndaa
open Go.RowKit Go.Proofs.YtgbeliajhccndaaW.PrintWords Go.Proofs.YtgbeliajhccndaaW.PrintLast Go.Proofs.YtgbeliajhccndaaW.PrintMore PP
theorem S5a_D {w:World} {a0 a1 a2 a3 a4:Addr} {v0 v1 v2 v3 v4:Value} (z:w.cell? a0 = some v0 ∧ w.cell? a1 = some v1 ∧ w.cell? a2 = some v2 ∧ w.cell? a3 = some v3 ∧ w.cell? a4 = some v4):w.drew.cell? a0 = some v0 ∧ w.drew.cell? a1 = some v1 ∧ w.drew.cell? a2 = some v2 ∧ w.drew.cell? a3 = some v3 ∧ w.drew.cell? a4 = some v4:=z
theorem S5a_O {w:World} {a0 a1 a2 a3 a4:Addr} {v0 v1 v2 v3 v4:Value} (z:w.cell? a0 = some v0 ∧ w.cell? a1 = some v1 ∧ w.cell? a2 = some v2 ∧ w.cell? a3 = some v3 ∧ w.cell? a4 = some v4) (o:Obj):(w.alloc o).cell? a0 = some v0 ∧ (w.alloc o).cell? a1 = some v1 ∧ (w.alloc o).cell? a2 = some v2 ∧ (w.alloc o).cell? a3 = some v3 ∧ (w.alloc o).cell? a4 = some v4:=⟨cellO z.1 o,cellO z.2.1 o,cellO z.2.2.1 o,cellO z.2.2.2.1 o,cellO z.2.2.2.2 o⟩
structure UsH (f:S38):Prop where
 wh:∀ v,inB f.f3.length v = true → whR f v = (usK f).W.getD v.toNat 0 ∧ atR f v = (usK f).A.getD v.toNat 0
 rg:∀ v,inB f.f3.length v = true → whR f v = -1 ∨ inB (waysL f).length (whR f v) = true
 se:∀ v b,inB f.f3.length v = true → inB (waysL f).length b = true → seenB (usK f) v b = endR f v b
set_option maxRecDepth 100000 in
set_option maxHeartbeats 8000000 in
theorem ruses_any (f:S38) (A1:Option Addr) (c1:Nat) (A3:Option Addr) (c3:Nat) (A4:Option Addr) (c4:Nat) (w:World) (hf:FA w f A1 c1 A3 c3 A4 c4) (hL:LimF f) (hR:Rng f) (hW:WaH f) (hU:UsH f) (hph:phisE f = 0) :
 Calls Try.prog 58 #[.agg #[.string f.f0,.slice A1 f.f1.length c1,.int .i64 f.f2,.slice A3 f.f3.length c3,.slice A4 f.f4.length c4]] w fun e W=>e = .returned (.bool (usesB f (usK f) 0 f.f4)) ∧ Hid (Below w.heap.size w W):=by
 obtain ⟨u,hu⟩:∃ u,u = usK f:=⟨_,rfl⟩
 have HUU:=Lib.hid hu
 rw [← hu]
 have HL:=Lib.hid hL
 have HR:=Lib.hid hR
 have HWA:=Lib.hid hW
 have HU:=Lib.hid hU
 have HPH:=Lib.hid hph
 have HFA:=Lib.hid hf
 clear hf hL hR hW hU hph hu
 go_enter Try.func58,Try.ntmps58
 go_upto_region 1 with (fail)
 obtain ⟨w1,hw1⟩:∃ w1,w1 = w.alloc (.cells #[.string f.f0,.slice A1 f.f1.length c1,.int .i64 f.f2,.slice A3 f.f3.length c3,.slice A4 f.f4.length c4] 38):=⟨_,rfl⟩
 obtain ⟨g1,hg1⟩:∃ g,g = w.heap.size:=⟨_,rfl⟩
 have hbx:w1.heap[g1]? = some (.cells #[.string f.f0,.slice A1 f.f1.length c1,.int .i64 f.f2,.slice A3 f.f3.length c3,.slice A4 f.f4.length c4] 38 (0,0)):=by rw [hw1,hg1];exact blk_new w _
 have hB:Below w.heap.size w w1:=by rw [hw1];exact below_alloc (Below.refl _ _) _
 rw [← hg1,← hw1]
 have HBX:=Lib.hid hbx
 have HB:=Lib.hid hB
 have HF1:=Lib.hid (HFA.out.below hB)
 obtain ⟨y0,y1,y2,y3,y4⟩:=S5_blk hbx
 have HSEE:=Lib.hid (rSee_any f A1 c1 A3 c3 A4 c4 w1 HF1.out HL.out HR.out)
 clear hw1 hg1 hbx hB HFA
 go_upto_region 2 with (first | (go_at_call 80;with_reducible refine Calls.mono HSEE.out ?_;rintro e w2 ⟨g,gw,gp,A,c,ws,hs0,rfl,HS0⟩) | (go_at_call 80;refine stop_intro ?_))
 have hwl:(waysL f).length = f.f4.length:=by simp [waysL]
 have HWL:=Lib.hid hwl
 have HAE:Hid (∀ (W:World) (hs:List Hd) (a b:Int),SiW w1 W g gw gp f A c ws hs → inB f.f3.length a = true → inB f.f4.length b = true → Calls Try.prog 81 #[.pointer (some ⟨g,0,none⟩),.int .i64 a,.int .i64 b] W fun e W'=>∃ hs',e = .returned (.bool (seenB (usK f) a b)) ∧ Hid (SiW w1 W' g gw gp f A c ws hs') ∧ Hid (W.grownBy W' (some gw))):=Lib.hid (fun W hs a b h1 h2 h3=>by
  rw [HU.out.se a b h2 (by rw [HWL.out];exact h3)]
  exact rAtEnd_any w1 g gw gp f A c ws hs a b W h1 HWA.out h2 (by rw [HWL.out];exact h3) (HU.out.rg a h2))
 clear HSEE hwl y0 y1 y2 y3 y4
 rw [← HUU.out] at HAE
 go_wp2_with (fail)
 go_loopg [4] f.f4.length (fun k v4 wr=>∃ (i:Nat) (hs:List Hd),i ≤ f.f4.length ∧ v4 = .int .i64 i ∧ Hid (i + k = f.f4.length) ∧ Hid (usesB f u 0 f.f4 = usesB f u (i:Int) (f.f4.drop i)) ∧ Hid (SiW w1 wr g gw gp f A c ws hs))
 case atStart=>exact ⟨0,hs0,by omega,rfl,Lib.hid (by omega),Lib.hid (by simp),HS0⟩
 case round=>
  clear HS0
  obtain ⟨i,hs,hi,rfl,HI,HP,HS⟩:=hrel
  obtain ⟨y0,y1,y2,y3,y4⟩:=S5_blk (blkB HS.out.below HBX.out)
  by_cases hlt:i < f.f4.length
  ·obtain ⟨ad,B0,d0,B1,d1,B4,d4,B5,d5,eA,x0,x1,x2,x3,x4,x5,l0,r0,l1,r1,l4,r4,l5,r5⟩:=at_T46 HF1.out.r4 (i:Int) (by omega) (by omega)
   have hx0:rd_T46 f.f4 (i:Int) = f.f4.getD i z46:=by simp [rd_T46]
   have HNX:Hid (usesB f u 0 f.f4 = (blkUse f u (i:Int) (f.f4.getD i z46) && usesB f u ((i + 1:Nat):Int) (f.f4.drop (i + 1)))):=Lib.hid (by rw [HP.out,usesB_step hlt])
   rw [Int.toNat_natCast] at x0 x1 x2 x3 x4 x5
   have x0:=cellB HS.out.below x0
   have x1:=cellB HS.out.below x1
   have x2:=cellB HS.out.below x2
   have x3:=cellB HS.out.below x3
   have x4:=cellB HS.out.below x4
   have x5:=cellB HS.out.below x5
   have hxm:rd_T46 f.f4 (i:Int) ∈ f.f4:=by rw [hx0];exact mem_getD z46 hlt
   rw [← hx0] at HNX
   clear hx0
   generalize rd_T46 f.f4 (i:Int) = x at *
   have HBU:Hid (blkUse f u (i:Int) x = (phiUse f u x.f3 x.f0 && bodyUse f u (i:Int) 0 x.f1 && termUse u (i:Int) x)):=Lib.hid rfl
   have HXL:=Lib.hid (HL.out.q x hxm)
   have HI0:=Lib.hid (HR.out.phi x hxm)
   have HI1:=Lib.hid (HR.out.bod x hxm)
   have HI3:=Lib.hid (HR.out.pre x hxm)
   have HT1:=Lib.hid (HR.out.ter x hxm)
   have HIB:Hid (inB f.f4.length (i:Int) = true):=Lib.hid (by simp [inB];omega)
   have HPL:Hid (∀ v ∈ x.f0,(argsOf f v).length = x.f3.length):=Lib.hid (fun v hv=>phis_len HPH.out hxm hv)
   have HE0:=Lib.hid r0
   have HE1:=Lib.hid r1
   have HE5:=Lib.hid r5
   obtain ⟨bc,hbc⟩:∃ bc:Array Value,bc = #[.slice B0 x.f0.length d0,.slice B1 x.f1.length d1,.int .i64 x.f2.f0,.int .i64 x.f2.f1,.slice B4 x.f2.f2.length d4,.slice B5 x.f3.length d5]:=⟨_,rfl⟩
   have HBC:=Lib.hid hbc
   subst eA
   clear hxm r0 r1 r4 r5 l0 l1 l4 l5
   go_upto_region 6 with (fail)
   rw [← hbc]
   obtain ⟨wb,hwb⟩:∃ wb,wb = wr.alloc (.cells bc 46):=⟨_,rfl⟩
   obtain ⟨gb,hgb⟩:∃ gb,gb = wr.heap.size:=⟨_,rfl⟩
   have hBb:Below wr.heap.size wr wb:=by rw [hwb];exact below_alloc (Below.refl _ _) _
   have hFb:wb.heap[gb]? = some (.cells bc 46 (0,0)):=by rw [hwb,hgb];exact blk_new wr _
   rw [← hgb,← hwb]
   have HSb:=Lib.hid (HS.out.then_ hBb)
   have HFb:=Lib.hid hFb
   clear hwb hgb hBb hFb hbc x0 x1 x2 x3 x4 x5 y0 y1 y2 y3 y4 HS
   generalize wr = wi at *
   generalize gk = go1 at *
   go_wp2_with (fail)
   go_loopg [6] x.f0.length (fun k v wr=>∃ (q:Nat) (hs:List Hd),q ≤ x.f0.length ∧ v = .int .i64 q ∧ Hid (q + k = x.f0.length) ∧ Hid (phiUse f u x.f3 x.f0 = phiUse f u x.f3 (x.f0.drop q)) ∧ Hid (SiW w1 wr g gw gp f A c ws hs) ∧ Hid (wr.heap[gb]? = some (.cells bc 46 (0,0))))
   case atStart=>exact ⟨0,_,by omega,rfl,Lib.hid (by omega),Lib.hid (by simp),HSb,HFb⟩
   case round=>
    clear HSb HFb
    obtain ⟨q,hs2,hq,rfl,HQI,HQP,HS,HF⟩:=hrel
    obtain ⟨y0,y1,y2,y3,y4⟩:=S5_blk (blkB HS.out.below HBX.out)
    have hfb:=HF.out
    rw [HBC.out] at hfb
    obtain ⟨x0,x1,x2,x3,x4,x5⟩:=S6_blk hfb
    clear hfb
    by_cases hlq:q < x.f0.length
    ·obtain ⟨ad1,hA1,h1⟩:=Kd.at_int (Kd.C_below HE0.out HS.out.below) (q:Int) (by omega) (by omega)
     have e0:rd x.f0 (q:Int) = x.f0.getD q 0:=by simp [rd]
     rw [Int.toNat_natCast,e0] at h1
     have HN2:Hid (phiUse f u x.f3 x.f0 = (pairsB u (argsOf f (x.f0.getD q 0)) x.f3 && phiUse f u x.f3 (x.f0.drop (q + 1)))):=Lib.hid (by rw [HQP.out,phiUse_step hlq])
     have hin:inB f.f3.length (x.f0.getD q 0) = true:=List.all_eq_true.1 HI0.out _ (mem_getD 0 hlq)
     have hpl:=HPL.out (x.f0.getD q 0) (mem_getD 0 hlq)
     clear e0
     generalize x.f0.getD q 0 = y at *
     obtain ⟨p0,p1⟩:=inB_iff hin
     obtain ⟨ad3,B3,d3,hA3,q0,q1,q2,q3,q4,q5⟩:=at_T42 HF1.out.r3 y p0 p1
     replace q3:=cellB HS.out.below q3
     have hal:(argsOf f y).all (inB f.f3.length) = true:=HR.out.val _ (mem_getD z42 (by omega))
     have hll:(argsOf f y).length ≤ 1000000000:=HL.out.a _ (mem_getD z42 (by omega))
     obtain ⟨l,hl⟩:∃ l,l = argsOf f y:=⟨_,rfl⟩
     replace q3:wr.cell? ⟨(ad3.add (y.toNat * 4)).block,(ad3.add (y.toNat * 4)).off + 3,none⟩ = some (.slice B3 l.length d3):=by rw [hl];exact q3
     have HC3:Hid ((Kd.int .i64).C w1 B3 l.length l):=Lib.hid (by rw [hl];exact q5)
     rw [← hl] at HN2 hpl hal hll
     have HLA:=Lib.hid hal
     have HLP:=Lib.hid hpl
     have HLL:=Lib.hid hll
     have p0t:=eq_true p0
     have p1t:=eq_true p1
     subst hA1 hA3
     clear hin q0 q1 q2 q4 q5 p0 p1 hal hll hl hpl
     go_upto_region 9 with (fail)
     go_quiet (fail)
     have HSd:=Lib.hid (HS.out.then_ (pw_below_drewN (Below.refl _ _) nq))
     have HFd:=Lib.hid (blkB (pw_below_drewN (Below.refl wr.heap.size wr) nq) HF.out)
     clear HS HF y0 y1 y2 y3 y4 x0 x1 x2 x3 x4 x5 h1 q3 p0t p1t
     generalize wr.drewN nq = wd at *
     generalize gk = go2 at *
     go_wp2_with (fail)
     go_loopg [8] l.length (fun k v wr=>∃ (j:Nat) (hs:List Hd),j ≤ l.length ∧ v = .int .i64 j ∧ Hid (j + k = l.length) ∧ Hid (pairsB u l x.f3 = pairsB u (l.drop j) (x.f3.drop j)) ∧ Hid (SiW w1 wr g gw gp f A c ws hs) ∧ Hid (wr.heap[gb]? = some (.cells bc 46 (0,0))))
     case atStart=>exact ⟨0,_,by omega,rfl,Lib.hid (by omega),Lib.hid (by simp),HSd,HFd⟩
     case round=>
      clear HSd HFd
      obtain ⟨j,hs3,hj,rfl,HJI,HJP,HS,HF⟩:=hrel
      have hfb:=HF.out
      rw [HBC.out] at hfb
      obtain ⟨x0,x1,x2,x3,x4,x5⟩:=S6_blk hfb
      clear hfb
      by_cases hlj:j < l.length
      ·have hlp:j < x.f3.length:=by have:=HLP.out;omega
       obtain ⟨ad2,hA2,h2⟩:=Kd.at_int (Kd.C_below HC3.out HS.out.below) (j:Int) (by omega) (by omega)
       have e0:rd l (j:Int) = l.getD j 0:=by simp [rd]
       rw [Int.toNat_natCast,e0] at h2
       obtain ⟨ad5,hA5,h5⟩:=Kd.at_int (Kd.C_below HE5.out HS.out.below) (j:Int) (by omega) (by omega)
       have e5:rd x.f3 (j:Int) = x.f3.getD j 0:=by simp [rd]
       rw [Int.toNat_natCast,e5] at h5
       have HN3:Hid (pairsB u l x.f3 = (seenB u (l.getD j 0) (x.f3.getD j 0) && pairsB u (l.drop (j + 1)) (x.f3.drop (j + 1)))):=Lib.hid (by rw [HJP.out,pairs_step hlj hlp])
       have ha:inB f.f3.length (l.getD j 0) = true:=List.all_eq_true.1 HLA.out _ (mem_getD 0 hlj)
       have hb:inB f.f4.length (x.f3.getD j 0) = true:=List.all_eq_true.1 HI3.out _ (mem_getD 0 hlp)
       clear e0 e5
       generalize l.getD j 0 = a at *
       generalize x.f3.getD j 0 = p at *
       have HSD:=Lib.hid (HS.out.then_ (below_drew (Below.refl _ _)))
       have HFD:Hid (wr.drew.heap[gb]? = some (.cells bc 46 (0,0))):=HF
       have HAA:=Lib.hid ha
       have HBBB:=Lib.hid hb
       have HJX:(j:Int) < (x.f3.length:Int):=by omega
       have HJXt:=eq_true HJX
       obtain ⟨sb,hsb⟩:∃ sb,sb = seenB u a p:=⟨_,rfl⟩
       have HSBB:=Lib.hid hsb
       rw [← hsb] at HN3
       subst hA2 hA5
       clear ha hb HJX hsb
       go_upto_region 13 with (fail)
       go_cut [61] (fun v wx=>∃ hs',v = .bool (!sb) ∧ Hid (SiW w1 wx g gw gp f A c ws hs') ∧ Hid (wx.heap[gb]? = some (.cells bc 46 (0,0))))
       case first=>
        go_region_with (first | (go_at_call 81;with_reducible refine Calls.mono (HAE.out _ hs3 a p HSD.out HAA.out HBBB.out) ?_;rintro e w6 ⟨hs6,rfl,HS6,HG6⟩) | (go_at_call 81;refine stop_intro ?_))
        all_goals
         go_wp2_with (fail)
         go_meet
         exact ⟨hs6,by rw [HSBB.out],HS6,Lib.hid (HSD.out.keep HG6.out HFD.out (by decide))⟩
       case rest=>
        obtain ⟨hs7,rfl,HS7,HF7⟩:=hcut
        clear HS HF x0 x1 x2 x3 x4 x5 h2 h5 HSD HFD HJXt
        cases sb with
        | false=>
          have HZ:Hid (false = usesB f u 0 f.f4):=Lib.hid (by rw [HNX.out,HBU.out,HN2.out,HN3.out];simp)
          go_wp2_with (fail)
          go_ret
          exact ⟨ret_bool HZ.out,Lib.hid (below_then HB.out HB.out.size HS7.out.below)⟩
        | true=>
          have HZ:Hid (pairsB u l x.f3 = pairsB u (l.drop (j + 1)) (x.f3.drop (j + 1))):=Lib.hid (by rw [HN3.out];simp)
          have hvb:=HLL.out
          go_wp2_with (fail)
          go_roundg (gk - 1)
          case measure=>have:=HJI.out;omega
          case rel=>exact ⟨j + 1,hs7,by omega,by go_num,Lib.hid (by have:=HJI.out;omega),HZ,HS7,HF7⟩
      ·have hje:j = l.length:=by omega
       subst hje
       have HZ:Hid (phiUse f u x.f3 x.f0 = phiUse f u x.f3 (x.f0.drop (q + 1))):=Lib.hid (by
        rw [HN2.out,HJP.out,List.drop_eq_nil_of_le (Nat.le_refl _)]
        simp [pairsB])
       have hvb:x.f0.length ≤ 1000000000:=HXL.out.1
       clear hlj hj HJI HJP
       go_wp2_with (fail)
       go_roundg (go2 - 1)
       case measure=>have:=HQI.out;omega
       case rel=>exact ⟨q + 1,hs3,by omega,by go_num,Lib.hid (by have:=HQI.out;omega),HZ,HS,HF⟩
    ·have hqe:q = x.f0.length:=by omega
     subst hqe
     have HPA:Hid (phiUse f u x.f3 x.f0 = true):=Lib.hid (by rw [HQP.out,List.drop_eq_nil_of_le (Nat.le_refl _)];rfl)
     clear hlq hq HQI HQP y0 y1 y2 y3 y4
     go_wp2_with (fail)
     go_loopg [9] x.f1.length (fun k v wr=>∃ (q:Nat) (hs:List Hd),q ≤ x.f1.length ∧ v = .int .i64 q ∧ Hid (q + k = x.f1.length) ∧ Hid (bodyUse f u (i:Int) 0 x.f1 = bodyUse f u (i:Int) (q:Int) (x.f1.drop q)) ∧ Hid (SiW w1 wr g gw gp f A c ws hs) ∧ Hid (wr.heap[gb]? = some (.cells bc 46 (0,0))))
     case atStart=>exact ⟨0,hs2,by omega,rfl,Lib.hid (by omega),Lib.hid (by simp),HS,HF⟩
     case round=>
      clear HS HF x0 x1 x2 x3 x4 x5
      obtain ⟨q,hs4,hq,rfl,HQI,HQP,HS,HF⟩:=hrel
      obtain ⟨y0,y1,y2,y3,y4⟩:=S5_blk (blkB HS.out.below HBX.out)
      have hfb:=HF.out
      rw [HBC.out] at hfb
      obtain ⟨x0,x1,x2,x3,x4,x5⟩:=S6_blk hfb
      clear hfb
      by_cases hlq:q < x.f1.length
      ·obtain ⟨ad1,hA1,h1⟩:=Kd.at_int (Kd.C_below HE1.out HS.out.below) (q:Int) (by omega) (by omega)
       have e0:rd x.f1 (q:Int) = x.f1.getD q 0:=by simp [rd]
       rw [Int.toNat_natCast,e0] at h1
       have HN2:Hid (bodyUse f u (i:Int) 0 x.f1 = ((argsOf f (x.f1.getD q 0)).all (useB u (i:Int) (q:Int)) && bodyUse f u (i:Int) ((q + 1:Nat):Int) (x.f1.drop (q + 1)))):=Lib.hid (by rw [HQP.out,bodyUse_step hlq])
       have hin:inB f.f3.length (x.f1.getD q 0) = true:=List.all_eq_true.1 HI1.out _ (mem_getD 0 hlq)
       clear e0
       generalize x.f1.getD q 0 = y at *
       obtain ⟨p0,p1⟩:=inB_iff hin
       obtain ⟨ad3,B3,d3,hA3,q0,q1,q2,q3,q4,q5⟩:=at_T42 HF1.out.r3 y p0 p1
       replace q3:=cellB HS.out.below q3
       have hal:(argsOf f y).all (inB f.f3.length) = true:=HR.out.val _ (mem_getD z42 (by omega))
       have hll:(argsOf f y).length ≤ 1000000000:=HL.out.a _ (mem_getD z42 (by omega))
       obtain ⟨l,hl⟩:∃ l,l = argsOf f y:=⟨_,rfl⟩
       replace q3:wr.cell? ⟨(ad3.add (y.toNat * 4)).block,(ad3.add (y.toNat * 4)).off + 3,none⟩ = some (.slice B3 l.length d3):=by rw [hl];exact q3
       have HC3:Hid ((Kd.int .i64).C w1 B3 l.length l):=Lib.hid (by rw [hl];exact q5)
       rw [← hl] at HN2 hal hll
       have HLA:=Lib.hid hal
       have HLL:=Lib.hid hll
       have p0t:=eq_true p0
       have p1t:=eq_true p1
       subst hA1 hA3
       clear hin q0 q1 q2 q4 q5 p0 p1 hal hll hl
       go_upto_region 18 with (fail)
       go_quiet (fail)
       have HSd:=Lib.hid (HS.out.then_ (pw_below_drewN (Below.refl _ _) nq))
       have HFd:=Lib.hid (blkB (pw_below_drewN (Below.refl wr.heap.size wr) nq) HF.out)
       clear HS HF y0 y1 y2 y3 y4 x0 x1 x2 x3 x4 x5 h1 q3 p0t p1t
       generalize wr.drewN nq = wd at *
       generalize gk = go2 at *
       go_wp2_with (fail)
       go_loopg [11] l.length (fun k v wr=>∃ (j:Nat) (hs:List Hd),j ≤ l.length ∧ v = .int .i64 j ∧ Hid (j + k = l.length) ∧ Hid (l.all (useB u (i:Int) (q:Int)) = (l.drop j).all (useB u (i:Int) (q:Int))) ∧ Hid (SiW w1 wr g gw gp f A c ws hs) ∧ Hid (wr.heap[gb]? = some (.cells bc 46 (0,0))))
       case atStart=>exact ⟨0,_,by omega,rfl,Lib.hid (by omega),Lib.hid (by simp),HSd,HFd⟩
       case round=>
        clear HSd HFd
        obtain ⟨j,hs5,hj,rfl,HJI,HJP,HS,HF⟩:=hrel
        by_cases hlj:j < l.length
        ·obtain ⟨ad2,hA2,h2⟩:=Kd.at_int (Kd.C_below HC3.out HS.out.below) (j:Int) (by omega) (by omega)
         have e0:rd l (j:Int) = l.getD j 0:=by simp [rd]
         rw [Int.toNat_natCast,e0] at h2
         have HST:=Lib.hid (all_stop (p:=useB u (i:Int) (q:Int)) (d:=0) hlj HJP.out)
         have HNX3:=Lib.hid (all_next (p:=useB u (i:Int) (q:Int)) (d:=0) hlj HJP.out)
         have ha:inB f.f3.length (l.getD j 0) = true:=List.all_eq_true.1 HLA.out _ (mem_getD 0 hlj)
         clear e0
         generalize l.getD j 0 = a at *
         obtain ⟨a0,a1⟩:=inB_iff ha
         have haN:a.toNat < f.f3.length:=by omega
         obtain ⟨z0,z1,z2⟩:=S3b HS.out.bk
         obtain ⟨t0,t1,t2⟩:=HS.out.pl.cell haN
         obtain ⟨W,hW⟩:∃ W,W = whR f a:=⟨_,rfl⟩
         obtain ⟨P,hPa⟩:∃ P,P = atR f a:=⟨_,rfl⟩
         obtain ⟨T,hT⟩:∃ T,T = (rplT f).2.2.getD a.toNat 0:=⟨_,rfl⟩
         replace t0:wr.cell? ⟨gp,a.toNat * 3,none⟩ = some (.int .i64 W):=by rw [hW];exact t0
         replace t1:wr.cell? ⟨gp,a.toNat * 3 + 1,none⟩ = some (.int .i64 P):=by rw [hPa];exact t1
         rw [← hT] at t2
         have HUB:Hid (useB u (i:Int) (q:Int) a = if W = (i:Int) then decide (P < (q:Int)) else seenB u a (i:Int)):=Lib.hid (by
          obtain ⟨e1,e2⟩:=HU.out.wh a ha
          unfold useB
          rw [HUU.out,← e1,← e2,hW,hPa])
         have HAA:=Lib.hid ha
         have a0t:=eq_true a0
         have a1t:=eq_true a1
         have yy:=And.intro z1 (And.intro h2 (And.intro t0 (And.intro t1 t2)))
         subst hA2
         clear a0 a1 haN hW hPa hT z0 z1 z2 h2 t0 t1 t2 ha
         go_upto_region 22 with (fail)
         go_cut [12] (fun v wx=>∃ gq,v = .pointer (some ⟨gq,0,none⟩) ∧ Hid (Below wr.heap.size wr wx) ∧ Hid (wx.heap[gq]? = some (.cells #[.int .i64 W,.int .i64 P,.int .i64 T] 87 (0,0))))
         case first=>
          go_region_held3 (fun w'=>w'.cell? ⟨g,1,none⟩ = some (.slice (some ⟨gp,0,none⟩) f.f3.length f.f3.length) ∧ w'.cell? (ad2.add j) = some (.int .i64 a) ∧ w'.cell? ⟨gp,a.toNat * 3,none⟩ = some (.int .i64 W) ∧ w'.cell? ⟨gp,a.toNat * 3 + 1,none⟩ = some (.int .i64 P) ∧ w'.cell? ⟨gp,a.toNat * 3 + 2,none⟩ = some (.int .i64 T)) (first | with_reducible exact S5a_D yy | with_reducible exact yy | with_reducible exact S5a_D (S5a_O yy _) | fail) (fail)
          all_goals
           go_wp2_with (fail)
           go_meet
           exact ⟨_,rfl,Lib.hid (below_alloc (below_drew (Below.refl _ _)) _),Lib.hid (blk_new _ _)⟩
         case rest=>
          obtain ⟨gq,rfl,HBy,HBq⟩:=hcut
          have HSz:=Lib.hid (HS.out.then_ HBy.out)
          have HFz:=Lib.hid (blkB HBy.out HF.out)
          obtain ⟨t0,t1,t2⟩:=S3b HBq.out
          have h2w:=cellB HBy.out yy.2.1
          clear yy a0t a1t HS HF HBy
          have hvb:=HLL.out
          by_cases hWi:W = (i:Int)
          ·have e1:(W == (i:Int)) = true:=by simp [hWi]
           have e2:(W != (i:Int)) = false:=by simp [hWi]
           by_cases hPq:P < (q:Int)
           ·have e3:decide (P ≥ (q:Int)) = false:=decide_eq_false (by omega)
            have e4:decide ((q:Int) ≤ P) = false:=decide_eq_false (by omega)
            have HZ:Hid (l.all (useB u (i:Int) (q:Int)) = (l.drop (j + 1)).all (useB u (i:Int) (q:Int))):=Lib.hid (HNX3.out (by rw [HUB.out,if_pos hWi];exact decide_eq_true hPq))
            clear hWi hPq
            go_wp2_with (fail)
            go_roundg (gk - 1)
            case measure=>have:=HJI.out;omega
            case rel=>exact ⟨j + 1,hs5,by omega,by go_num,Lib.hid (by have:=HJI.out;omega),HZ,HSz,HFz⟩
           ·have e3:decide (P ≥ (q:Int)) = true:=decide_eq_true (by omega)
            have e4:decide ((q:Int) ≤ P) = true:=decide_eq_true (by omega)
            have HZ:Hid (false = usesB f u 0 f.f4):=Lib.hid (by rw [HNX.out,HBU.out,HN2.out,HST.out (by rw [HUB.out,if_pos hWi];exact decide_eq_false hPq)];simp)
            clear hWi hPq
            go_wp2_with (fail)
            go_ret
            exact ⟨ret_bool HZ.out,Lib.hid (below_then HB.out HB.out.size HSz.out.below)⟩
          ·have e1:(W == (i:Int)) = false:=by simp [hWi]
           have e2:(W != (i:Int)) = true:=by simp [hWi]
           obtain ⟨sb,hsb⟩:∃ sb,sb = seenB u a (i:Int):=⟨_,rfl⟩
           have HSBB:=Lib.hid hsb
           have HUB2:Hid (useB u (i:Int) (q:Int) a = sb):=Lib.hid (by rw [HUB.out,if_neg hWi,hsb])
           clear hWi hsb
           go_upto_if 120 with (first | (go_at_call 81;with_reducible refine Calls.mono (HAE.out _ hs5 a (i:Int) HSz.out HAA.out HIB.out) ?_;rintro e w6 ⟨hs6,rfl,HS6,HG6⟩) | (go_at_call 81;refine stop_intro ?_))
           rw [← HSBB.out]
           have HF6:=Lib.hid (HSz.out.keep HG6.out HFz.out (by decide))
           clear HSz HFz t0 t1 t2 HBq h2w
           cases sb with
           | false=>
             have HZ:Hid (false = usesB f u 0 f.f4):=Lib.hid (by rw [HNX.out,HBU.out,HN2.out,HST.out HUB2.out];simp)
             go_wp2_with (fail)
             go_ret
             exact ⟨ret_bool HZ.out,Lib.hid (below_then HB.out HB.out.size HS6.out.below)⟩
           | true=>
             have HZ:Hid (l.all (useB u (i:Int) (q:Int)) = (l.drop (j + 1)).all (useB u (i:Int) (q:Int))):=Lib.hid (HNX3.out HUB2.out)
             go_wp2_with (fail)
             go_roundg (gk - 1)
             case measure=>have:=HJI.out;omega
             case rel=>exact ⟨j + 1,hs6,by omega,by go_num,Lib.hid (by have:=HJI.out;omega),HZ,HS6,HF6⟩
        ·have hje:j = l.length:=by omega
         subst hje
         have HZ:Hid (bodyUse f u (i:Int) 0 x.f1 = bodyUse f u (i:Int) ((q + 1:Nat):Int) (x.f1.drop (q + 1))):=Lib.hid (by
          rw [HN2.out,HJP.out,List.drop_eq_nil_of_le (Nat.le_refl _)]
          simp)
         have hvb:x.f1.length ≤ 1000000000:=HXL.out.2.1
         clear hlj hj HJI HJP
         go_wp2_with (fail)
         go_roundg (go2 - 1)
         case measure=>have:=HQI.out;omega
         case rel=>exact ⟨q + 1,hs5,by omega,by go_num,Lib.hid (by have:=HQI.out;omega),HZ,HS,HF⟩
      ·have hqe:q = x.f1.length:=by omega
       subst hqe
       have HPB:Hid (bodyUse f u (i:Int) 0 x.f1 = true):=Lib.hid (by rw [HQP.out,List.drop_eq_nil_of_le (Nat.le_refl _)];rfl)
       have HTU:Hid (termUse u (i:Int) x = (decide (x.f2.f1 < 0) || seenB u x.f2.f1 (i:Int))):=Lib.hid rfl
       have HN4:Hid (usesB f u 0 f.f4 = (termUse u (i:Int) x && usesB f u ((i + 1:Nat):Int) (f.f4.drop (i + 1)))):=Lib.hid (by rw [HNX.out,HBU.out,HPA.out,HPB.out];simp)
       have hvb:=HL.out.b
       clear hlq hq HQI HQP y0 y1 y2 y3 y4
       by_cases h0:x.f2.f1 < 0
       ·have e0:decide (x.f2.f1 ≥ 0) = false:=decide_eq_false (by omega)
        have e1:decide (0 ≤ x.f2.f1) = false:=decide_eq_false (by omega)
        have HZ:Hid (usesB f u 0 f.f4 = usesB f u ((i + 1:Nat):Int) (f.f4.drop (i + 1))):=Lib.hid (by rw [HN4.out,HTU.out,decide_eq_true h0];simp)
        clear h0
        go_wp2_with (fail)
        go_roundg (go1 - 1)
        case measure=>have:=HI.out;omega
        case rel=>exact ⟨i + 1,hs4,by omega,by go_num,Lib.hid (by have:=HI.out;omega),HZ,HS⟩
       ·have e0:decide (x.f2.f1 ≥ 0) = true:=decide_eq_true (by omega)
        have e1:decide (0 ≤ x.f2.f1) = true:=decide_eq_true (by omega)
        have HAA:Hid (inB f.f3.length x.f2.f1 = true):=Lib.hid (by have:=HT1.out;simp [inB];omega)
        obtain ⟨sb,hsb⟩:∃ sb,sb = seenB u x.f2.f1 (i:Int):=⟨_,rfl⟩
        have HSBB:=Lib.hid hsb
        have HN5:Hid (usesB f u 0 f.f4 = (sb && usesB f u ((i + 1:Nat):Int) (f.f4.drop (i + 1)))):=Lib.hid (by rw [HN4.out,HTU.out,decide_eq_false h0,hsb];rfl)
        clear h0 hsb
        go_upto_if 133 with (first | (go_at_call 81;with_reducible refine Calls.mono (HAE.out _ hs4 x.f2.f1 (i:Int) HS.out HAA.out HIB.out) ?_;rintro e w6 ⟨hs6,rfl,HS6,HG6⟩) | (go_at_call 81;refine stop_intro ?_))
        rw [← HSBB.out]
        have HF6:=Lib.hid (HS.out.keep HG6.out HF.out (by decide))
        clear HS HF x0 x1 x2 x3 x4 x5
        cases sb with
        | false=>
          have HZ:Hid (false = usesB f u 0 f.f4):=Lib.hid (by rw [HN5.out];rfl)
          go_wp2_with (fail)
          go_ret
          exact ⟨ret_bool HZ.out,Lib.hid (below_then HB.out HB.out.size HS6.out.below)⟩
        | true=>
          have HZ:Hid (usesB f u 0 f.f4 = usesB f u ((i + 1:Nat):Int) (f.f4.drop (i + 1))):=Lib.hid (by rw [HN5.out];rfl)
          go_wp2_with (fail)
          go_roundg (go1 - 1)
          case measure=>have:=HI.out;omega
          case rel=>exact ⟨i + 1,hs6,by omega,by go_num,Lib.hid (by have:=HI.out;omega),HZ,HS6⟩
  ·have hie:i = f.f4.length:=by omega
   subst hie
   have HZ:Hid (true = usesB f u 0 f.f4):=Lib.hid (by rw [HP.out,List.drop_eq_nil_of_le (Nat.le_refl _)];rfl)
   clear hlt hi HI HP
   go_wp2_with (fail)
   go_ret
   exact ⟨ret_bool HZ.out,Lib.hid (below_then HB.out HB.out.size HS.out.below)⟩
end Go.Proofs.Ytgbeliajhccndaa
end
section
set_option linter.unusedVariables false
set_option linter.unusedSimpArgs false
namespace Go.Proofs.Ytgbeliajhccndaa
open Go.RowKit Go.Proofs.YtgbeliajhccndaaW.PrintWords Go.Proofs.YtgbeliajhccndaaW.PrintLast Go.Proofs.YtgbeliajhccndaaW.PrintMore PP
def ledT (b i:Int):List Int → List Int → List Int
 | acc,[]=>acc
 | acc,c :: r=>ledT b i (if c = b then acc ++ [i] else acc) r
def ledF (b:Int):List Int → Int → List (List Int) → List Int
 | acc,_,[]=>acc
 | acc,i,t :: r=>ledF b (ledT b i acc t) (i + 1) r
theorem ledT_step {b i:Int} {acc R l:List Int} {q:Nat} (hq:q < l.length) (h:R = ledT b i acc (l.drop q)):R = ledT b i (if l.getD q 0 = b then acc ++ [i] else acc) (l.drop (q + 1)):=by
 rw [h,List.drop_eq_getElem_cons hq,ledT];simp [List.getD_eq_getElem?_getD,hq]
theorem ledF_step {b:Int} {acc R:List Int} {l:List (List Int)} {i:Nat} (hi:i < l.length) (h:R = ledF b acc (i:Int) (l.drop i)):R = ledF b (ledT b (i:Int) acc (l.getD i [])) ((i + 1:Nat):Int) (l.drop (i + 1)):=by
 rw [h,List.drop_eq_getElem_cons hi,ledF];simp [List.getD_eq_getElem?_getD,hi]
theorem addAll_led {x b:Int} (hb:0 ≤ b):∀ (t:List Int) (rs:List (List Int)),b.toNat < rs.length → (∀ c ∈ t,0 ≤ c) → (addAll x rs t).getD b.toNat [] = ledT b x (rs.getD b.toNat []) t ∧ (addAll x rs t).length = rs.length
 | [],rs,_,_=>⟨rfl,rfl⟩
 | c :: r,rs,hl,hc=>by
   have c0:=hc c (by simp)
   have hlen:(addAt rs c.toNat x).length = rs.length:=by unfold addAt;simp
   obtain ⟨h1,h2⟩:=addAll_led hb r (addAt rs c.toNat x) (by rw [hlen];exact hl) (fun d hd=>hc d (by simp [hd]))
   refine ⟨?_,by rw [addAll,h2,hlen]⟩
   rw [addAll,h1,ledT]
   congr 1
   unfold addAt
   simp only [List.getD_eq_getElem?_getD,List.getElem?_set]
   by_cases e:c = b
   ·subst e
    rw [if_pos rfl,if_pos rfl,if_pos hl]
    rfl
   ·rw [if_neg (by omega),if_neg e]
theorem leadF_led {b:Int} (hb:0 ≤ b):∀ (ts:List (List Int)) (i:Int) (rs:List (List Int)),b.toNat < rs.length → (∀ t ∈ ts,∀ c ∈ t,0 ≤ c) → (leadF rs i ts).getD b.toNat [] = ledF b (rs.getD b.toNat []) i ts
 | [],i,rs,_,_=>rfl
 | t :: r,i,rs,hl,hc=>by
   obtain ⟨h1,h2⟩:=addAll_led (x:=i) hb t rs hl (hc t (by simp))
   rw [leadF,leadF_led hb r (i + 1) _ (by rw [h2];exact hl) (fun u hu=>hc u (by simp [hu])),h1,ledF]
theorem leadOf_led {f:S38} {b:Nat} (hb:b < f.f4.length) (hc:∀ t ∈ waysL f,∀ c ∈ t,0 ≤ c):(leadOf f).getD b [] = ledF (b:Int) [] 0 (waysL f):=by
 have h:=leadF_led (b:=(b:Int)) (by omega) (waysL f) 0 (List.replicate f.f4.length []) (by simp;omega) hc
 rw [Int.toNat_natCast] at h
 unfold leadOf
 rw [h]
 congr 1
 rw [List.getD_eq_getElem?_getD,List.getElem?_replicate]
 split <;> rfl
theorem same_l0 (l r:List Int) (hl:l.length = r.length) (hb:l.length ≤ 4000000000000):∀ m i:Nat,i + m = l.length → l.take i = r.take i → Ev (fun k=>quernref9_same.l0 k l r (i:Int)) (decide (l = r))
 | 0,i,e,h=>by
   have:l = r:=by rwa [List.take_of_length_le (by omega),List.take_of_length_le (by omega)] at h
   rw [decide_eq_true this]
   exact Ev.step (fun k=>by rw [quernref9_same.l0,if_neg (by omega)]) (Ev.now _)
 | m + 1,i,e,h=>by
   have hil:i < l.length:=by omega
   have hir:i < r.length:=by omega
   have e1:rd l (i:Int) = l[i]:=by show l.getD i 0 = _;rw [List.getD_eq_getElem?_getD,List.getElem?_eq_getElem hil];rfl
   have e2:rd r (i:Int) = r[i]:=by show r.getD i 0 = _;rw [List.getD_eq_getElem?_getD,List.getElem?_eq_getElem hir];rfl
   have hw:wrap64 ((i:Int) + 1) = ((i + 1:Nat):Int):=by unfold wrap64;omega
   by_cases c:l[i] = r[i]
   ·refine Ev.step (fun k=>by rw [quernref9_same.l0,if_pos (by omega),if_pos (by omega),if_pos (by omega),e1,e2,if_pos c,hw]) (same_l0 l r hl hb m (i + 1) (by omega) ?_)
    rw [List.take_succ_eq_append_getElem hil,List.take_succ_eq_append_getElem hir,h,c]
   ·have:¬ l = r:=fun e=>c (by subst e;rfl)
    rw [decide_eq_false this]
    exact Ev.step (fun k=>by rw [quernref9_same.l0,if_pos (by omega),if_pos (by omega),if_pos (by omega),e1,e2,if_neg c]) (Ev.now _)
theorem rsame_any (l r:List Int) (hb:l.length ≤ 4000000000000) (A:Option Addr) (c:Nat) (B:Option Addr) (d:Nat) (w:World) (h1:(Kd.int .i64).C w A l.length l) (h2:l.length ≤ c) (h3:(Kd.int .i64).C w B r.length r) (h4:r.length ≤ d) :
 Calls Try.prog 75 #[.slice A l.length c,.slice B r.length d] w fun e w'=>e = .returned (.bool (decide (l = r))) ∧ ∃ q,w' = w.drewN q:=by
 have:∃ K,quernref9_same.f K l r = some (decide (l = r)):=by
  by_cases hl:l.length = r.length
  ·obtain ⟨K,hK⟩:=same_l0 l r hl hb l.length 0 (by omega) rfl
   exact ⟨K,by unfold quernref9_same.f;rw [if_pos (by omega)];exact hK K (Nat.le_refl _)⟩
  ·exact ⟨0,by unfold quernref9_same.f;rw [if_neg (by omega),decide_eq_false (fun e=>hl (by rw [e]))]⟩
 obtain ⟨K,hK⟩:=this
 exact (quernref9_same.calls K A c l B d r _ w h1 h2 h3 h4 hK).mono (fun e w' ⟨h,q,hq⟩=>⟨h,q,hq⟩)
set_option maxRecDepth 100000 in
set_option maxHeartbeats 4000000 in
theorem rLeads_any (f:S38) (A1:Option Addr) (c1:Nat) (A3:Option Addr) (c3:Nat) (A4:Option Addr) (c4:Nat) (b:Int) (w:World) (hf:FA w f A1 c1 A3 c3 A4 c4) (hL:LimF f) (h2:∀ b ∈ f.f4,b.f2.f2.length ≤ 2) :
 Calls Try.prog 76 #[.agg #[.string f.f0,.slice A1 f.f1.length c1,.int .i64 f.f2,.slice A3 f.f3.length c3,.slice A4 f.f4.length c4],.int .i64 b] w fun e W=>∃ A c,e = .returned (.slice A (ledF b [] 0 (waysL f)).length c) ∧ Hid ((Kd.int .i64).R 3 W w.heap.size (fun _=>True) (.slice A (ledF b [] 0 (waysL f)).length c) (ledF b [] 0 (waysL f))) ∧ Hid (Below w.heap.size w W):=by
 obtain ⟨R,hR⟩:∃ R,R = ledF b [] 0 (waysL f):=⟨_,rfl⟩
 have HRR:=Lib.hid hR
 rw [← hR]
 have HL:=Lib.hid hL
 have H2:=Lib.hid h2
 have HFA:=Lib.hid hf
 clear hf hL h2 hR
 go_enter Try.func76,Try.ntmps76
 go_upto_region 1 with (fail)
 obtain ⟨w1,hw1⟩:∃ w1,w1 = w.alloc (.cells #[.string f.f0,.slice A1 f.f1.length c1,.int .i64 f.f2,.slice A3 f.f3.length c3,.slice A4 f.f4.length c4] 38):=⟨_,rfl⟩
 obtain ⟨g3,hg3⟩:∃ g,g = w.heap.size:=⟨_,rfl⟩
 have hbx:w1.heap[g3]? = some (.cells #[.string f.f0,.slice A1 f.f1.length c1,.int .i64 f.f2,.slice A3 f.f3.length c3,.slice A4 f.f4.length c4] 38 (0,0)):=by rw [hw1,hg3];exact blk_new w _
 have hB:Below w.heap.size w w1:=by rw [hw1];exact below_alloc (Below.refl _ _) _
 rw [← hg3,← hw1]
 have HBX:=Lib.hid hbx
 have HB:=Lib.hid hB
 have HF1:=Lib.hid (HFA.out.below hB)
 clear hw1 hg3 hbx hB HFA
 go_wp2_with (fail)
 go_loopg [5,6] f.f4.length (fun k u v wr=>∃ (i:Nat) (ls:List Int),i ≤ f.f4.length ∧ v = .int .i64 i ∧ Hid (i + k = f.f4.length) ∧ Hid (R = ledF b ls (i:Int) ((waysL f).drop i)) ∧ Hid (ls.length ≤ 2 * i) ∧ Hid ((Kd.int .i64).R 3 wr w1.heap.size (fun _=>True) u ls) ∧ Hid (Below w1.heap.size w1 wr))
 case atStart=>exact ⟨0,[],by omega,rfl,Lib.hid (by omega),Lib.hid HRR.out,Lib.hid (by simp),Lib.hid (Kd.R_nil _ _ _ _ _),Lib.hid (Below.refl _ _)⟩
 case round=>
  obtain ⟨i,ls,hi,rfl,HI,HP,HLN,HLS,HBr⟩:=hrel
  obtain ⟨y0,y1,y2,y3,y4⟩:=S5_blk (blkB HBr.out HBX.out)
  by_cases hlt:i < f.f4.length
  ·obtain ⟨ad4,B0,d0,B1,d1,B4,d4,B5,d5,hA4,q0,q1,q2,q3,q4,q5,_,_,_,_,l4,r4,_,_⟩:=at_T46 HF1.out.r4 (i:Int) (by omega) (by omega)
   rw [Int.toNat_natCast] at q0 q1 q2 q3 q4 q5
   have hx0:rd_T46 f.f4 (i:Int) = f.f4.getD i z46:=by simp [rd_T46]
   have hwl:i < (waysL f).length:=by simpa [waysL] using hlt
   have hwe:(waysL f).getD i [] = (rd_T46 f.f4 (i:Int)).f2.f2:=by simp [waysL,rd_T46,List.getD_eq_getElem?_getD,hlt]
   have HNX:=Lib.hid (ledF_step hwl HP.out)
   rw [hwe] at HNX
   have ht2:(rd_T46 f.f4 (i:Int)).f2.f2.length ≤ 2:=H2.out _ (by rw [hx0];exact mem_getD z46 hlt)
   obtain ⟨t,ht⟩:∃ t,t = (rd_T46 f.f4 (i:Int)).f2.f2:=⟨_,rfl⟩
   rw [← ht] at HNX ht2
   have HC4:Hid ((Kd.int .i64).C w1 B4 t.length t):=Lib.hid (by rw [ht];exact r4)
   have q4':w1.cell? ⟨(ad4.add (i * 6)).block,(ad4.add (i * 6)).off + 4,none⟩ = some (.slice B4 t.length d4):=by rw [ht];exact q4
   have HQ4:=Lib.hid q4'
   have HT2:=Lib.hid ht2
   subst hA4
   clear q0 q1 q2 q3 q4 q5 l4 r4 hx0 hwl hwe ht ht2 q4'
   generalize wr = wi at *
   generalize gk = go1 at *
   go_wp2_with (fail)
   go_loopg [5,7] t.length (fun k u v wr=>∃ (q:Nat) (ls2:List Int),q ≤ t.length ∧ v = .int .i64 q ∧ Hid (q + k = t.length) ∧ Hid (ledT b (i:Int) ls t = ledT b (i:Int) ls2 (t.drop q)) ∧ Hid (ls2.length ≤ 2 * i + q) ∧ Hid ((Kd.int .i64).R 3 wr w1.heap.size (fun _=>True) u ls2) ∧ Hid (Below w1.heap.size w1 wr))
   case atStart=>exact ⟨0,ls,by omega,rfl,Lib.hid (by omega),Lib.hid (by simp),HLN,HLS,HBr⟩
   case round=>
    clear HLS HBr y0 y1 y2 y3 y4
    obtain ⟨q,ls2,hq,rfl,HQI,HQP,HQL,HLS,HBr⟩:=hrel
    obtain ⟨y0,y1,y2,y3,y4⟩:=S5_blk (blkB HBr.out HBX.out)
    have q4:=cellB HBr.out HQ4.out
    by_cases hlq:q < t.length
    ·obtain ⟨ad2,hA2,h2⟩:=Kd.at_int (Kd.C_below HC4.out HBr.out) (q:Int) (by omega) (by omega)
     have e0:rd t (q:Int) = t.getD q 0:=by simp [rd]
     rw [Int.toNat_natCast,e0] at h2
     have HN2:=Lib.hid (ledT_step hlq HQP.out)
     clear e0
     generalize t.getD q 0 = x at *
     have hvb:t.length ≤ 1000:=by have:=HT2.out;omega
     have hvi:f.f4.length ≤ 1000000000:=HL.out.b
     subst hA2
     by_cases hxb:x = b
     ·have e1:(x == b) = true:=by simp [hxb]
      rw [if_pos hxb] at HN2
      have HXB:=Lib.hid hxb
      clear hxb
      go_wp2_with (at_builtin;refine stop_intro ?_)
      unfold Stop
      refine Kd.R_append (Kd.int .i64) (w0:=w1) w1.heap.size rfl (.tmp 39) (.tmp 41) 34 3 (.int .i64 0) 8 rfl Try.underlying34 info3 rfl (by decide) (by decide) _ ls2 (i:Int) [.int .i64 (i:Int)] (fun _=>True) (fun _=>False) rfl rfl rfl (fun _ h=>h.elim) (fun _ _=>trivial) HLS.out HBr.out ?base ?len ?_
      case base=>have:=HBr.out.size;omega
      case len=>have:=HQL.out;omega
      intro v1 w2 hR2 hB2 _ _
      have HR2:=Lib.hid hR2
      have HB2:=Lib.hid hB2
      clear hR2 hB2
      go_wp2
      go_roundg (gk - 1)
      case measure=>have:=HQI.out;omega
      case rel=>exact ⟨q + 1,ls2 ++ [(i:Int)],by omega,by go_num,Lib.hid (by have:=HQI.out;omega),HN2,Lib.hid (by have:=HQL.out;simp;omega),HR2,HB2⟩
     ·have e1:(x == b) = false:=by simp [hxb]
      rw [if_neg hxb] at HN2
      clear hxb
      go_wp2_with (fail)
      go_roundg (gk - 1)
      case measure=>have:=HQI.out;omega
      case rel=>exact ⟨q + 1,ls2,by omega,by go_num,Lib.hid (by have:=HQI.out;omega),HN2,Lib.hid (by have:=HQL.out;omega),HLS,HBr⟩
    ·have hqe:q = t.length:=by omega
     subst hqe
     have HZ:Hid (R = ledF b ls2 ((i + 1:Nat):Int) ((waysL f).drop (i + 1))):=Lib.hid (by
      have h:=HNX.out
      rw [HQP.out,List.drop_eq_nil_of_le (Nat.le_refl _)] at h
      exact h)
     have HZL:Hid (ls2.length ≤ 2 * (i + 1)):=Lib.hid (by have:=HQL.out;have:=HT2.out;omega)
     have hvb:=HL.out.b
     clear hlq hq HQI HQP
     go_wp2_with (fail)
     go_roundg (go1 - 1)
     case measure=>have:=HI.out;omega
     case rel=>exact ⟨i + 1,ls2,by omega,by go_num,Lib.hid (by have:=HI.out;omega),HZ,HZL,HLS,HBr⟩
  ·have hie:i = f.f4.length:=by omega
   have HZ:Hid (R = ls):=Lib.hid (by rw [HP.out,List.drop_eq_nil_of_le (by simp [waysL];omega)];rfl)
   rw [← HZ.out] at HLS
   obtain ⟨A',c',hv⟩:=Kd.R_slice HLS.out
   subst hv
   clear hlt hi HI HP
   go_wp2
   go_ret
   exact ⟨A',c',rfl,Lib.hid (Kd.R_lower HLS.out HB.out.size),Lib.hid (below_then HB.out HB.out.size HBr.out)⟩
def rpredsB (f:S38):Bool:=(List.range f.f4.length).all (fun i=>decide ((f.f4.getD i z46).f3 = ledF (i:Int) [] 0 (waysL f))) && ((f.f4.getD 0 z46).f3.length:Int) == 0
end Go.Proofs.Ytgbeliajhccndaa
end
section
set_option linter.unusedVariables false
set_option linter.unusedSimpArgs false
namespace Go.Proofs.Ytgbeliajhccndaa
open Go.RowKit Go.Proofs.YtgbeliajhccndaaW.PrintWords Go.Proofs.YtgbeliajhccndaaW.PrintLast Go.Proofs.YtgbeliajhccndaaW.PrintMore PP
def eqL (f:S38) (i:Nat):Bool:=decide ((f.f4.getD i z46).f3 = ledF (i:Int) [] 0 (waysL f))
set_option maxRecDepth 100000 in
set_option maxHeartbeats 4000000 in
theorem rpreds_any (f:S38) (A1:Option Addr) (c1:Nat) (A3:Option Addr) (c3:Nat) (A4:Option Addr) (c4:Nat) (w:World) (hf:FA w f A1 c1 A3 c3 A4 c4) (hL:LimF f) (h2:∀ b ∈ f.f4,b.f2.f2.length ≤ 2) (hp:0 < f.f4.length) :
 Calls Try.prog 52 #[.agg #[.string f.f0,.slice A1 f.f1.length c1,.int .i64 f.f2,.slice A3 f.f3.length c3,.slice A4 f.f4.length c4]] w fun e W=>e = .returned (.bool (rpredsB f)) ∧ Hid (Below w.heap.size w W):=by
 obtain ⟨Z,hZ⟩:∃ Z,Z = rpredsB f:=⟨_,rfl⟩
 have hrp:Z = ((List.range f.f4.length).all (eqL f) && ((f.f4.getD 0 z46).f3.length:Int) == 0):=hZ
 have HZZ:=Lib.hid hrp
 rw [← hZ]
 have HL:=Lib.hid hL
 have H2:=Lib.hid h2
 have HPO:=Lib.hid hp
 have HFA:=Lib.hid hf
 clear hf hL h2 hp hZ hrp
 go_enter Try.func52,Try.ntmps52
 go_upto_region 1 with (fail)
 obtain ⟨w1,hw1⟩:∃ w1,w1 = w.alloc (.cells #[.string f.f0,.slice A1 f.f1.length c1,.int .i64 f.f2,.slice A3 f.f3.length c3,.slice A4 f.f4.length c4] 38):=⟨_,rfl⟩
 obtain ⟨g3,hg3⟩:∃ g,g = w.heap.size:=⟨_,rfl⟩
 have hbx:w1.heap[g3]? = some (.cells #[.string f.f0,.slice A1 f.f1.length c1,.int .i64 f.f2,.slice A3 f.f3.length c3,.slice A4 f.f4.length c4] 38 (0,0)):=by rw [hw1,hg3];exact blk_new w _
 have hB:Below w.heap.size w w1:=by rw [hw1];exact below_alloc (Below.refl _ _) _
 rw [← hg3,← hw1]
 have HBX:=Lib.hid hbx
 have HB:=Lib.hid hB
 have HF1:=Lib.hid (HFA.out.below hB)
 clear hw1 hg3 hbx hB HFA
 go_wp2_with (fail)
 go_loopg [3] f.f4.length (fun k v wr=>∃ (i:Nat),i ≤ f.f4.length ∧ v = .int .i64 i ∧ Hid (i + k = f.f4.length) ∧ Hid (∀ j,j < i → eqL f j = true) ∧ Hid (Below w1.heap.size w1 wr))
 case atStart=>exact ⟨0,by omega,rfl,Lib.hid (by omega),Lib.hid (fun j hj=>by omega),Lib.hid (Below.refl _ _)⟩
 case round=>
  obtain ⟨i,hi,rfl,HI,HP,HBr⟩:=hrel
  have y:=S5_blk (blkB HBr.out HBX.out)
  by_cases hlt:i < f.f4.length
  ·obtain ⟨ad4,B0,d0,B1,d1,B4,d4,B5,d5,hA4,q0,q1,q2,q3,q4,x5,_,_,_,_,_,_,l5,r5⟩:=at_T46 (Kd.C_below HF1.out.r4 HBr.out) (i:Int) (by omega) (by omega)
   rw [Int.toNat_natCast] at x5
   have hx0:rd_T46 f.f4 (i:Int) = f.f4.getD i z46:=by simp [rd_T46]
   have hmem:f.f4.getD i z46 ∈ f.f4:=mem_getD z46 hlt
   have hlq:=(HL.out.q _ hmem).2.2.2
   obtain ⟨ps,hps⟩:∃ ps,ps = (f.f4.getD i z46).f3:=⟨_,rfl⟩
   rw [hx0,← hps] at x5 l5 r5
   obtain ⟨R,hR⟩:∃ R,R = ledF (i:Int) [] 0 (waysL f):=⟨_,rfl⟩
   obtain ⟨q,hq⟩:∃ q,q = eqL f i:=⟨_,rfl⟩
   have HQ:=Lib.hid hq
   have HQD:Hid (decide (ps = R) = q):=Lib.hid (by rw [hq,hps,hR];rfl)
   have HLD:Hid (∀ W:World,Below wr.heap.size wr W → Calls Try.prog 76 #[.agg #[.string f.f0,.slice A1 f.f1.length c1,.int .i64 f.f2,.slice A3 f.f3.length c3,.slice A4 f.f4.length c4],.int .i64 (i:Int)] W fun e w'=>∃ A c,e = .returned (.slice A R.length c) ∧ Hid ((Kd.int .i64).R 3 w' W.heap.size (fun _=>True) (.slice A R.length c) R) ∧ Hid (Below W.heap.size W w')):=Lib.hid (fun W hW=>by
    rw [hR]
    exact rLeads_any f A1 c1 A3 c3 A4 c4 (i:Int) W (HF1.out.below (below_then HBr.out HBr.out.size hW)) HL.out H2.out)
   have HSM:Hid (∀ (W:World) (A:Option Addr) (c:Nat) (base:Nat),Below wr.heap.size wr W → (Kd.int .i64).R 3 W base (fun _=>True) (.slice A R.length c) R → Calls Try.prog 75 #[.slice B5 ps.length d5,.slice A R.length c] W fun e w'=>e = .returned (.bool q) ∧ Hid (Below W.heap.size W w')):=Lib.hid (fun W A c base hW hRR=>by
    obtain ⟨_,k2,k3⟩:=Kd.R_reads' hRR
    refine (rsame_any ps R (by rw [hps];omega) B5 d5 A c W (Kd.C_below r5 hW) l5 k3 k2).mono ?_
    rintro e w' ⟨rfl,n,rfl⟩
    exact ⟨by rw [HQD.out],Lib.hid (pw_below_drewN (Below.refl _ _) n)⟩)
   have HDR:Hid (Below wr.heap.size wr wr.drew):=Lib.hid (below_drew (Below.refl _ _))
   subst hA4
   have hvb:=HL.out.b
   clear q0 q1 q2 q3 q4 l5 r5 hx0 hmem hlq hps hR hq
   go_upto_region 4 with (fail)
   go_cut [21] (fun v wx=>v = .bool (!q) ∧ Hid (Below wr.heap.size wr wx))
   case first=>
    go_region_held3 (fun w'=>(w'.cell? ⟨g3,0,none⟩ = some (.string f.f0) ∧ w'.cell? ⟨g3,1,none⟩ = some (.slice A1 f.f1.length c1) ∧ w'.cell? ⟨g3,2,none⟩ = some (.int .i64 f.f2) ∧ w'.cell? ⟨g3,3,none⟩ = some (.slice A3 f.f3.length c3) ∧ w'.cell? ⟨g3,4,none⟩ = some (.slice (some ad4) f.f4.length c4)) ∧ w'.cell? ⟨(ad4.add (i * 6)).block,(ad4.add (i * 6)).off + 5,none⟩ = some (.slice B5 ps.length d5)) (first | with_reducible exact And.intro (S5_D y) (cellD x5) | with_reducible exact And.intro y x5 | with_reducible exact zz | fail) ((first | (go_at_call 76;with_reducible refine Calls.mono (HLD.out _ HDR.out) ?_;rintro e w2 ⟨A',c',rfl,HR2,HB2⟩;have HB3:=Lib.hid (undrew HB2.out);have zz:=And.intro (S5_Bb HB3.out y) (cellB HB3.out x5)) | (go_at_call 75;with_reducible refine Calls.mono (HSM.out _ _ _ _ HB3.out HR2.out) ?_;rintro e w3 ⟨rfl,HB4⟩;have HB5:=Lib.hid (below_then HB3.out HB3.out.size HB4.out);have zz:=And.intro (S5_Bb HB5.out y) (cellB HB5.out x5)) | (go_at_call 76;refine stop_intro ?_) | (go_at_call 75;refine stop_intro ?_)))
    all_goals
     go_wp2_with (fail)
     go_meet
     exact ⟨rfl,HB5⟩
   case rest=>
    obtain ⟨rfl,HBy⟩:=hcut
    have HBn:=Lib.hid (below_then HBr.out HBr.out.size HBy.out)
    clear HLD HSM HDR y x5 HBy
    cases q with
    | false=>
      have HF:Hid (false = Z):=Lib.hid (by
       rw [HZZ.out]
       have:(List.range f.f4.length).all (eqL f) = false:=by
        rw [← Bool.not_eq_true,List.all_eq_true]
        intro h
        rw [h i (List.mem_range.2 hlt)] at HQ
        exact absurd HQ.out (by decide)
       rw [this];rfl)
      go_wp2_with (fail)
      go_ret
      exact ⟨ret_bool HF.out,Lib.hid (below_then HB.out HB.out.size HBn.out)⟩
    | true=>
      go_wp2_with (fail)
      go_roundg (gk - 1)
      case measure=>have:=HI.out;omega
      case rel=>exact ⟨i + 1,by omega,by go_num,Lib.hid (by have:=HI.out;omega),Lib.hid (fun j hj=>by
       by_cases e:j = i
       ·rw [e];exact HQ.out.symm
       ·exact HP.out j (by omega)),HBn⟩
  ·have hie:i = f.f4.length:=by omega
   subst hie
   have HALL:Hid ((List.range f.f4.length).all (eqL f) = true):=Lib.hid (List.all_eq_true.2 (fun j hj=>HP.out j (List.mem_range.1 hj)))
   have h0:((0:Nat):Int) < (f.f4.length:Int):=by have:=HPO.out;omega
   obtain ⟨ad,B0,d0,B1,d1,B4,d4,B5,d5,eA,x0,x1,x2,x3,x4,x5,l0,r0,l1,r1,l4,r4,l5,r5⟩:=at_T46 (Kd.C_below HF1.out.r4 HBr.out) ((0:Nat):Int) (by omega) h0
   have hx0:rd_T46 f.f4 ((0:Nat):Int) = f.f4.getD 0 z46:=by simp [rd_T46]
   rw [hx0] at x5
   have e0:ad.add (((0:Nat):Int).toNat * 6) = ad:=by unfold Addr.add;simp
   rw [e0] at x5
   have h0':(0:Int) < (f.f4.length:Int):=h0
   have h0t:=eq_true h0'
   have h0n:0 < f.f4.length:=by omega
   have HPH:Hid ((((f.f4.getD 0 z46).f3.length:Int) == 0) = Z):=Lib.hid (by rw [HZZ.out,HALL.out];rfl)
   generalize f.f4.getD 0 z46 = x at *
   obtain ⟨y0,y1,y2,y3,y4⟩:=y
   subst eA
   clear x0 x1 x2 x3 x4 l0 r0 l1 r1 l4 r4 l5 r5 hx0 hlt hi HI HP
   go_wp2_with (fail)
   go_ret
   exact ⟨ret_bool HPH.out,Lib.hid (below_then HB.out HB.out.size HBr.out)⟩
end Go.Proofs.Ytgbeliajhccndaa
end
