/- Lemmas of this claim (YG,YH,YI). -/
import Derived.Test.YtgbeliajhccndaaKAG
import Derived.Test.YtgbeliajhccndaaKV
section
set_option linter.unusedVariables false
set_option linter.unusedSimpArgs false
namespace Go.Proofs.Ytgbeliajhccndaa
open Go.RowKit Go.Proofs.YtgbeliajhccndaaW.PrintWords Go.Proofs.YtgbeliajhccndaaW.PrintLast Go.Proofs.YtgbeliajhccndaaW.PrintMore PP
section
variable {fs:List S38} {mn:Int} {f:S38} {v:S42}
theorem fit_shape (h:qB fs f v = true):v.f3.all (inB f.f3.length) = true ∧ 0 ≤ v.f1 ∧ v.f1 ≤ 3 ∧ (rowI v.f0).ok = true ∧ ((rowI v.f0).n < 0 ∨ (v.f3.length:Int) = (rowI v.f0).n) ∧ tailB fs v = true:=by
 unfold qB at h
 rw [value_row] at h
 simp only [Bool.and_eq_true,Bool.or_eq_true,decide_eq_true_eq,beq_iff_eq] at h
 exact ⟨h.1,h.2.1.1,h.2.1.2,h.2.2.1.1,h.2.2.1.2,h.2.2.2⟩
theorem fit_one (h:v.f0 = 1):fitsB (dOf fs mn f) v = (v.f1 == 1 || (v.f1 == 2 && (v.f2 == 0 || v.f2 == 1)) || (v.f1 == 3 && v.f2 == 0)):=by unfold fitsB;rw [if_pos h]
theorem fit_two (h:v.f0 = 13 ∨ v.f0 = 14) {a b:Int} (hl:v.f3 = [a,b]):fitsB (dOf fs mn f) v = (v.f1 == 2 && typeOf f a != 0 && typeOf f b == typeOf f a):=by
 unfold fitsB
 rw [if_neg (by omega),if_pos h,hl]
 show (v.f1 == 2 && typeOf f a != 0 && (typeOf f a == typeOf f a && (typeOf f b == typeOf f a && true))) = _
 simp
theorem fit_call (h:v.f0 = 25):fitsB (dOf fs mn f) v = (callB f (rd_T38 fs v.f2) v.f3 (rd_T38 fs v.f2).f1 && v.f1 == (rd_T38 fs v.f2).f2):=by unfold fitsB;rw [if_neg (by omega),if_neg (by omega),if_pos h];rfl
theorem fit_phi (h:v.f0 = 32):fitsB (dOf fs mn f) v = (v.f1 != 0 && v.f3.all (fun a=>typeOf f a == v.f1)):=by unfold fitsB;rw [if_neg (by omega),if_neg (by omega),if_neg (by omega),if_pos h];rfl
theorem fit_par (h:v.f0 = 33):fitsB (dOf fs mn f) v = (v.f1 != 0):=by unfold fitsB;rw [if_neg (by omega),if_neg (by omega),if_neg (by omega),if_neg (by omega),if_pos h]
theorem fit_else (h1:v.f0 ≠ 1) (h2:¬ (v.f0 = 13 ∨ v.f0 = 14)) (h3:v.f0 ≠ 25) (h4:v.f0 ≠ 32) (h5:v.f0 ≠ 33) (hok:(rowI v.f0).ok = true) (hn:(rowI v.f0).n < 0 ∨ (v.f3.length:Int) = (rowI v.f0).n) :
 v.f3.length ≤ 3 ∧ fitsB (dOf fs mn f) v = (areB f v.f3 [(rowI v.f0).a,(rowI v.f0).b,(rowI v.f0).c] && v.f1 == (rowI v.f0).t):=by
 have hf:fitsB (dOf fs mn f) v = (v.f1 == (wantB v.f0).2 && areB f v.f3 (wantB v.f0).1):=by unfold fitsB;rw [if_neg h1,if_neg h2,if_neg h3,if_neg h4,if_neg h5];rfl
 rw [hf]
 obtain ⟨op,ty,im,ar⟩:=v
 dsimp only at *
 by_cases hr:2 ≤ op ∧ op ≤ 33
 ·obtain ⟨k,rfl⟩:∃ k:Nat,op = (k:Int):=⟨op.toNat,by omega⟩
  have:k = 2 ∨ k = 3 ∨ k = 4 ∨ k = 5 ∨ k = 6 ∨ k = 7 ∨ k = 8 ∨ k = 9 ∨ k = 10 ∨ k = 11 ∨ k = 12 ∨ k = 15 ∨ k = 16 ∨ k = 17 ∨ k = 18 ∨ k = 19 ∨ k = 20 ∨ k = 21 ∨ k = 22 ∨ k = 23 ∨ k = 24 ∨ k = 26 ∨ k = 27 ∨ k = 28 ∨ k = 29 ∨ k = 30 ∨ k = 31:=by omega
  clear h1 h2 h3 h4 h5 hf hr
  rcases this with rfl | rfl | rfl | rfl | rfl | rfl | rfl | rfl | rfl | rfl | rfl | rfl | rfl | rfl | rfl | rfl | rfl | rfl | rfl | rfl | rfl | rfl | rfl | rfl | rfl | rfl | rfl
  all_goals try (exfalso;revert hok;decide)
  all_goals
   simp [rowI] at hn
   try (simp [rowI,wantB])
   rcases ar with _ | ⟨a,_ | ⟨b,_ | ⟨c,_ | ⟨d,r⟩⟩⟩⟩ <;> simp at hn
   all_goals first | (simp [areB,Bool.and_comm];done) | (exfalso;omega) | skip
 ·have h1:rowI op = ⟨0,0,0,0,0,false⟩:=by unfold rowI;repeat rw [if_neg (by omega)]
  rw [h1] at hok
  exact absurd hok (by decide)
end
set_option maxRecDepth 100000 in
set_option maxHeartbeats 4000000 in
theorem rfits_any (fs:List S38) (mn:Int) (A:Option Addr) (c:Nat) (f:S38) (A1:Option Addr) (c1:Nat) (A3:Option Addr) (c3:Nat) (A4:Option Addr) (c4:Nat) (v:S42) (A5:Option Addr) (c5:Nat) (w:World)
 (hfs:k38.C w A fs.length fs) (hc:fs.length ≤ c) (hf:FA w f A1 c1 A3 c3 A4 c4) (hv:v.f3.length ≤ c5) (hV:(Kd.int .i64).C w A5 v.f3.length v.f3) (hl:v.f3.length ≤ 1000000000)
 (hq:qB fs f v = true) (hT:∀ a,inB f.f3.length a = true → 0 ≤ typeOf f a) (hP:∀ h ∈ fs,h.f1.all (inB h.f3.length) = true) :
 Calls Try.prog 79 #[.agg #[.slice A fs.length c,.int .i64 mn],.agg #[.string f.f0,.slice A1 f.f1.length c1,.int .i64 f.f2,.slice A3 f.f3.length c3,.slice A4 f.f4.length c4],.agg #[.int .i64 v.f0,.int .i64 v.f1,.int .i64 v.f2,.slice A5 v.f3.length c5]] w fun e W=>e = .returned (.bool (fitsB (dOf fs mn f) v)) ∧ Hid (Below w.heap.size w W):=by
 have hro:=RowOf_any v.f0
 obtain ⟨R,hR⟩:∃ R,R = rowI v.f0:=⟨_,rfl⟩
 rw [← hR] at hro
 have HR:=Lib.hid hR
 have HRO:=Lib.hid hro
 have HFS:=Lib.hid hfs
 have HFA:=Lib.hid hf
 have HV:=Lib.hid hV
 have HVL:=Lib.hid hl
 have HT:=Lib.hid hT
 have HPP:=Lib.hid hP
 have HSH:=Lib.hid (fit_shape hq)
 clear hro hR hfs hf hV hv hq hT hP hl
 obtain ⟨n,a,b,cc,t,ok⟩:=R
 go_enter Try.func79,Try.ntmps79
 go_upto_region 1 with (fail)
 obtain ⟨w1,hw1⟩:∃ w1,w1 = (((w.alloc (.cells #[.slice A fs.length c,.int .i64 mn] 24)).alloc (.cells #[.string f.f0,.slice A1 f.f1.length c1,.int .i64 f.f2,.slice A3 f.f3.length c3,.slice A4 f.f4.length c4] 38)).alloc (.cells #[.int .i64 v.f0,.int .i64 v.f1,.int .i64 v.f2,.slice A5 v.f3.length c5] 42)):=⟨_,rfl⟩
 obtain ⟨g3,hg3⟩:∃ g,g = w.heap.size:=⟨_,rfl⟩
 obtain ⟨g4,hg4⟩:∃ g,g = w.heap.size + 1:=⟨_,rfl⟩
 obtain ⟨g5,hg5⟩:∃ g,g = w.heap.size + 1 + 1:=⟨_,rfl⟩
 have hbx:=box3_blk w (.cells #[.slice A fs.length c,.int .i64 mn] 24) (.cells #[.string f.f0,.slice A1 f.f1.length c1,.int .i64 f.f2,.slice A3 f.f3.length c3,.slice A4 f.f4.length c4] 38) (.cells #[.int .i64 v.f0,.int .i64 v.f1,.int .i64 v.f2,.slice A5 v.f3.length c5] 42)
 have hB:Below w.heap.size w w1:=by rw [hw1];exact box3_below _ _ _
 rw [← hg5,← hg4,← hg3,← hw1] at hbx
 rw [← hg5,← hg4,← hg3,← hw1]
 have HBX:=Lib.hid hbx
 have HB:=Lib.hid hB
 have z0:=(S4_blk hbx.2.2).1
 clear hw1 hg3 hg4 hg5 hbx hB
 go_upto_region 2 with (first | (go_at_call 86;with_reducible refine Calls.mono (HRO.out _) ?_;rintro e w2 ⟨rfl,HB2⟩) | (go_at_call 86;refine stop_intro ?_))
 obtain ⟨w3,hw3⟩:∃ w3,w3 = w2.alloc (.cells #[.int .i64 n,.int .i64 a,.int .i64 b,.int .i64 cc,.int .i64 t] 122):=⟨_,rfl⟩
 obtain ⟨g7,hg7⟩:∃ g,g = w2.heap.size:=⟨_,rfl⟩
 have hB3:Below w2.heap.size w2 w3:=by rw [hw3];exact below_alloc (Below.refl _ _) _
 have hF3:w3.heap[g7]? = some (.cells #[.int .i64 n,.int .i64 a,.int .i64 b,.int .i64 cc,.int .i64 t] 122 (0,0)):=by rw [hw3,hg7];exact blk_new w2 _
 rw [← hg7,← hw3]
 have hB13:=below_then HB2.out HB2.out.size hB3
 have HBc:=Lib.hid (below_then HB.out HB.out.size hB13)
 have hb3:=blkB hB13 HBX.out.1
 have hb4:=blkB hB13 HBX.out.2.1
 have hb5:=blkB hB13 HBX.out.2.2
 have HBK:=Lib.hid (And.intro hb3 (And.intro hb4 (And.intro hb5 hF3)))
 obtain ⟨s0,s1⟩:=S2_blk hb3
 obtain ⟨y0,y1,y2,y3,y4⟩:=S5_blk hb4
 obtain ⟨x0,x1,x2,x3⟩:=S4_blk hb5
 obtain ⟨q0,q1,q2,q3,q4⟩:=S5_blk hF3
 clear hw3 hg7 hB3 hF3 hB13 hb3 hb4 hb5 HB2 HBX z0
 go_upto_region 3 with (fail)
 by_cases k1:v.f0 = 1
 ·have e1:(v.f0 == 1) = true:=by simp [k1]
  obtain ⟨b1,hb1⟩:∃ b,(v.f1 == 1) = b:=⟨_,rfl⟩
  obtain ⟨b2,hb2⟩:∃ b,(v.f1 == 2) = b:=⟨_,rfl⟩
  obtain ⟨b3,hb3⟩:∃ b,(v.f1 == 3) = b:=⟨_,rfl⟩
  obtain ⟨i0,hi0⟩:∃ b,(v.f2 == 0) = b:=⟨_,rfl⟩
  obtain ⟨i1,hi1⟩:∃ b,(v.f2 == 1) = b:=⟨_,rfl⟩
  have HX:Hid (fitsB (dOf fs mn f) v = (b1 || (b2 && (i0 || i1)) || (b3 && i0))):=Lib.hid (by rw [fit_one k1,hb1,hb2,hb3,hi0,hi1])
  clear k1
  cases b1 <;> cases b2 <;> cases b3 <;> cases i0 <;> cases i1
  all_goals
   go_wp2_with (fail)
   go_ret
   exact ⟨ret_bool (by rw [HX.out];simp),HBc⟩
 have e1:(v.f0 == 1) = false:=by simp [k1]
 by_cases k13:v.f0 = 13 ∨ v.f0 = 14
 ·have e2:(v.f0 == 13) = true ∨ (v.f0 == 13) = false ∧ (v.f0 == 14) = true:=by simp;omega
  have hn2:v.f3.length = 2:=by
   have h:=HSH.out.2.2.2.2.1
   have:(rowI v.f0).n = 2:=by rcases k13 with e | e <;> rw [e] <;> decide
   omega
  obtain ⟨p,q,hpq⟩:∃ p q,v.f3 = [p,q]:=by
   rcases h:v.f3 with _ | ⟨p,_ | ⟨q,_ | ⟨r,l⟩⟩⟩
   all_goals (rw [h] at hn2;simp at hn2)
   exact ⟨p,q,rfl⟩
  have HX:Hid (fitsB (dOf fs mn f) v = (v.f1 == 2 && typeOf f p != 0 && typeOf f q == typeOf f p)):=Lib.hid (fit_two k13 hpq)
  have hal:=HSH.out.1
  have hCv:=Kd.C_below HV.out HBc.out
  rw [hpq] at hal hCv
  simp only [List.all_cons,List.all_nil,Bool.and_true,Bool.and_eq_true] at hal
  obtain ⟨ad5,hA5,h0⟩:=Kd.at_int hCv 0 (by omega) (by simp)
  obtain ⟨_,hA5',h1⟩:=Kd.at_int hCv 1 (by omega) (by simp)
  obtain rfl:=Option.some.inj (hA5.symm.trans hA5')
  have t0:=HT.out p hal.1
  obtain ⟨p0,p1⟩:=inB_iff hal.1
  obtain ⟨r0,r1⟩:=inB_iff hal.2
  obtain ⟨ad3,B3,d3,hA3,m0,m1,m2,m3,m4,m5⟩:=at_T42 (Kd.C_below HFA.out.r3 HBc.out) p p0 p1
  obtain ⟨_,B3',d3',hA3',n0,n1,n2,n3,n4,n5⟩:=at_T42 (Kd.C_below HFA.out.r3 HBc.out) q r0 r1
  obtain rfl:=Option.some.inj (hA3.symm.trans hA3')
  have hln:(v.f3.length:Int) = 2:=by omega
  have z0:w3.cell? ad5 = some (.int .i64 p):=by have:=h0;simpa [rd,Addr.add] using this
  have z1:w3.cell? (ad5.add 1) = some (.int .i64 q):=by have:=h1;simpa [rd] using this
  have z1a:w3.cell? ⟨ad5.block,ad5.off + 1,none⟩ = some (.int .i64 q):=z1
  have m1':w3.cell? ⟨(ad3.add (p.toNat * 4)).block,(ad3.add (p.toNat * 4)).off + 1,none⟩ = some (.int .i64 (typeOf f p)):=m1
  have n1':w3.cell? ⟨(ad3.add (q.toNat * 4)).block,(ad3.add (q.toNat * 4)).off + 1,none⟩ = some (.int .i64 (typeOf f q)):=n1
  have p0t:=eq_true p0
  have p1t:=eq_true p1
  have r0t:=eq_true r0
  have r1t:=eq_true r1
  generalize typeOf f p = tp at *
  generalize typeOf f q = tq at *
  have L0:(0:Int) < (v.f3.length:Int):=by omega
  have L1:(1:Int) < (v.f3.length:Int):=by omega
  have L0n:0 < v.f3.length:=by omega
  have L1n:1 < v.f3.length:=by omega
  have L0t:=eq_true L0
  have L1t:=eq_true L1
  have HHL:=Lib.hid hn2
  subst hA5 hA3
  obtain ⟨b2,hb2⟩:∃ b,(v.f1 == 2) = b:=⟨_,rfl⟩
  have x1r:(v.f1 == 2) = true → w3.cell? ⟨g5,1,none⟩ = some (.int .i64 v.f1) → (w3.cell? ⟨g5,1,none⟩ = some (.int .i64 2)):=fun h e=>by rw [e,beq_iff_eq.1 h]
  have HX1R:=Lib.hid x1r
  clear x1r
  have hz:decide (tp > 0) = (tp != 0):=by
   by_cases e:tp = 0
   ·subst e;rfl
   ·rw [decide_eq_true (by omega)];symm;simpa using e
  obtain ⟨bz,hbz⟩:∃ b,(tp != 0) = b:=⟨_,rfl⟩
  rw [hbz] at hz
  have hz':decide (0 < tp) = bz:=hz
  obtain ⟨bq,hbq⟩:∃ b,(tq == tp) = b:=⟨_,rfl⟩
  rw [hb2,hbz,hbq] at HX
  clear k1 k13 hCv h0 h1 hal hA5' hA3' m0 m1 m2 m3 m4 m5 n0 n1 n2 n3 n4 n5 p0 p1 r0 r1 hpq t0 hbz hln L0 L1 hn2
  rcases e2 with e2 | ⟨e2,e3⟩
  all_goals
   go_upto_region 7 with (fail)
   go_quiet (fail)
   go_upto_region 8 with (fail)
   cases b2 <;> cases bz
   all_goals first | (replace x1:=HX1R.out hb2 x1;clear hb2) | skip
   all_goals
    go_quiet (fail)
    go_wp2_with (fail)
    go_ret
    exact ⟨ret_bool (by rw [HX.out];simp),Lib.hid (by have:=HBc.out;repeat (first | exact this | refine pw_below_drewN ?_ _))⟩
 have e2:(v.f0 == 13) = false ∧ (v.f0 == 14) = false:=by simp;omega
 obtain ⟨e2,e3⟩:=e2
 by_cases k25:v.f0 = 25
 ·have e4:(v.f0 == 25) = true:=by simp [k25]
  have htl:=HSH.out.2.2.2.2.2
  unfold tailB at htl
  rw [if_neg (by omega),if_pos k25] at htl
  simp only [Bool.and_eq_true,decide_eq_true_eq,beq_iff_eq] at htl
  obtain ⟨⟨m0,m1⟩,m2⟩:=htl
  have hmem:rd_T38 fs v.f2 ∈ fs:=mem_getD z38 (by omega)
  have HX:Hid (fitsB (dOf fs mn f) v = (callB f (rd_T38 fs v.f2) v.f3 (rd_T38 fs v.f2).f1 && v.f1 == (rd_T38 fs v.f2).f2)):=Lib.hid (fit_call k25)
  have HPH:=Lib.hid (HPP.out _ hmem)
  obtain ⟨ad,B1,d1,B3,d3,B4,d4,eA,z0,z1,z2,z3,z4,l1,r1,l3,r3,l4,r4⟩:=at_T38 (Kd.C_below HFS.out HBc.out) v.f2 m0 m1
  generalize rd_T38 fs v.f2 = h at *
  have m0t:=eq_true m0
  have m1t:=eq_true m1
  have HR1:=Lib.hid r1
  have HR3:=Lib.hid r3
  have HLEN:Hid (v.f3.length = h.f1.length):=Lib.hid (by omega)
  subst eA
  clear k1 k13 k25 hmem m0 m1 m2 l1 r1 l3 r3 l4 r4
  go_upto_region 11 with (fail)
  obtain ⟨wb,hwb⟩:∃ wb,wb = w3.alloc (.cells #[.string h.f0,.slice B1 h.f1.length d1,.int .i64 h.f2,.slice B3 h.f3.length d3,.slice B4 h.f4.length d4] 38):=⟨_,rfl⟩
  obtain ⟨gh,hgh⟩:∃ gh,gh = w3.heap.size:=⟨_,rfl⟩
  have hBb:Below w3.heap.size w3 wb:=by rw [hwb];exact below_alloc (Below.refl _ _) _
  have hFb:wb.heap[gh]? = some (.cells #[.string h.f0,.slice B1 h.f1.length d1,.int .i64 h.f2,.slice B3 h.f3.length d3,.slice B4 h.f4.length d4] 38 (0,0)):=by rw [hwb,hgh];exact blk_new w3 _
  rw [← hgh,← hwb]
  have HBb:=Lib.hid (below_then HBc.out HBc.out.size hBb)
  have HFb:=Lib.hid hFb
  have HK2:=Lib.hid (blkB hBb HBK.out.2.1)
  have HK3:=Lib.hid (blkB hBb HBK.out.2.2.1)
  have HR1:=Lib.hid (Kd.C_below HR1.out hBb)
  have HR3:=Lib.hid (Kd.C_below HR3.out hBb)
  clear hwb hgh hBb hFb z0 z1 z2 z3 z4 s0 s1 y0 y1 y2 y3 y4 x0 x1 x2 x3 q0 q1 q2 q3 q4 m0t m1t
  go_wp2_with (fail)
  go_loopg [11] v.f3.length (fun k v11 wr=>∃ i:Nat,i ≤ v.f3.length ∧ v11 = .int .i64 i ∧ Hid (i + k = v.f3.length) ∧ Hid (callB f h v.f3 h.f1 = callB f h (v.f3.drop i) (h.f1.drop i)) ∧ Hid (Below wb.heap.size wb wr))
  case atStart=>exact ⟨0,by omega,rfl,Lib.hid (by omega),Lib.hid (by simp),Lib.hid (Below.refl _ _)⟩
  case round=>
   obtain ⟨i,hi,rfl,HI,HP,HBr⟩:=hrel
   have HBd:=Lib.hid (below_then HBb.out HBb.out.size HBr.out)
   obtain ⟨y0,y1,y2,y3,y4⟩:=S5_blk (blkB HBr.out HK2.out)
   obtain ⟨x0,x1,x2,x3⟩:=S4_blk (blkB HBr.out HK3.out)
   obtain ⟨s0,s1,s2,s3,s4⟩:=S5_blk (blkB HBr.out HFb.out)
   by_cases hlt:i < v.f3.length
   ·have hlh:i < h.f1.length:=by have:=HLEN.out;omega
    obtain ⟨ad1,hA1,h1⟩:=Kd.at_int (Kd.C_below HV.out HBd.out) (i:Int) (by omega) (by omega)
    have e0:rd v.f3 (i:Int) = v.f3.getD i 0:=by simp [rd]
    rw [Int.toNat_natCast,e0] at h1
    obtain ⟨ad2,hA2,h2⟩:=Kd.at_int (Kd.C_below HR1.out HBr.out) (i:Int) (by omega) (by omega)
    have e0':rd h.f1 (i:Int) = h.f1.getD i 0:=by simp [rd]
    rw [Int.toNat_natCast,e0'] at h2
    have HCS:=Lib.hid (call_step (f:=f) (h:=h) hlt hlh)
    have hin:inB f.f3.length (v.f3.getD i 0) = true:=List.all_eq_true.1 HSH.out.1 _ (mem_getD 0 hlt)
    have hin2:inB h.f3.length (h.f1.getD i 0) = true:=List.all_eq_true.1 HPH.out _ (mem_getD 0 hlh)
    clear e0 e0'
    generalize v.f3.getD i 0 = y at *
    generalize h.f1.getD i 0 = z at *
    obtain ⟨p0,p1⟩:=inB_iff hin
    obtain ⟨r0,r1⟩:=inB_iff hin2
    obtain ⟨ad3,C3,t3,hA3,m0,m1,m2,m3,m4,m5⟩:=at_T42 (Kd.C_below HFA.out.r3 HBd.out) y p0 p1
    obtain ⟨ad4,C4,t4,hA4,n0,n1,n2,n3,n4,n5⟩:=at_T42 (Kd.C_below HR3.out HBr.out) z r0 r1
    have m1':wr.cell? ⟨(ad3.add (y.toNat * 4)).block,(ad3.add (y.toNat * 4)).off + 1,none⟩ = some (.int .i64 (typeOf f y)):=m1
    have n1':wr.cell? ⟨(ad4.add (z.toNat * 4)).block,(ad4.add (z.toNat * 4)).off + 1,none⟩ = some (.int .i64 (typeOf h z)):=n1
    generalize typeOf f y = ty at *
    generalize typeOf h z = tz at *
    obtain ⟨bz,hbz⟩:∃ b,(tz == 0) = b:=⟨_,rfl⟩
    have hbz':(tz != 0) = !bz:=by rw [← hbz];rfl
    obtain ⟨bq,hbq⟩:∃ b,(ty == tz) = b:=⟨_,rfl⟩
    have hbq':(ty != tz) = !bq:=by rw [← hbq];rfl
    rw [hbz',hbq] at HCS
    have p0t:=eq_true p0
    have p1t:=eq_true p1
    have r0t:=eq_true r0
    have r1t:=eq_true r1
    have HIL:(i:Int) < (h.f1.length:Int):=by omega
    have HILt:=eq_true HIL
    subst hA1 hA2 hA3 hA4
    clear hin hin2 p0 p1 r0 r1 m0 m1 m2 m3 m4 m5 n0 n1 n2 n3 n4 n5 hbq hbz' HIL
    have hvb:=HVL.out
    go_upto_region 14 with (fail)
    go_quiet (fail)
    go_upto_region 15 with (fail)
    cases bz with
    | true=>
      go_quiet (fail)
      go_wp2_with (fail)
      go_ret
      exact ⟨ret_bool (by rw [HX.out,HP.out,HCS.out];simp),Lib.hid (by have:=HBd.out;repeat (first | exact this | refine pw_below_drewN ?_ _))⟩
    | false=>
      go_quiet (fail)
      cases bq with
      | false=>
        go_wp2_with (fail)
        go_ret
        exact ⟨ret_bool (by rw [HX.out,HP.out,HCS.out];simp),Lib.hid (by have:=HBd.out;repeat (first | exact this | refine pw_below_drewN ?_ _))⟩
      | true=>
        go_wp2_with (fail)
        go_roundg (gk - 1)
        case measure=>have:=HI.out;omega
        case rel=>exact ⟨i + 1,by omega,by go_num,Lib.hid (by have:=HI.out;omega),Lib.hid (by rw [HP.out,HCS.out];simp),Lib.hid (by have:=HBr.out;repeat (first | exact this | refine pw_below_drewN ?_ _))⟩
   ·have hie:i = v.f3.length:=by omega
    subst hie
    have HZ:Hid ((v.f1 == h.f2) = fitsB (dOf fs mn f) v):=Lib.hid (by
     rw [HX.out,HP.out,List.drop_eq_nil_of_le (by omega)]
     simp [callB])
    clear hlt hi HI HP
    go_wp2_with (fail)
    go_ret
    exact ⟨ret_bool HZ.out,HBd⟩
 have e4:(v.f0 == 25) = false:=by simp [k25]
 by_cases k32:v.f0 = 32
 ·have e5:(v.f0 == 32) = true:=by simp [k32]
  have HX:Hid (fitsB (dOf fs mn f) v = (v.f1 != 0 && v.f3.all (fun a=>typeOf f a == v.f1))):=Lib.hid (fit_phi k32)
  clear k1 k13 k25 k32
  go_wp2_with (fail)
  go_loopg [13] v.f3.length (fun k v13 wr=>∃ i:Nat,i ≤ v.f3.length ∧ v13 = .int .i64 i ∧ Hid (i + k = v.f3.length) ∧ Hid (v.f3.all (fun a=>typeOf f a == v.f1) = (v.f3.drop i).all (fun a=>typeOf f a == v.f1)) ∧ Hid (Below w3.heap.size w3 wr))
  case atStart=>exact ⟨0,by omega,rfl,Lib.hid (by omega),Lib.hid (by simp),Lib.hid (Below.refl _ _)⟩
  case round=>
   obtain ⟨i,hi,rfl,HI,HP,HBr⟩:=hrel
   clear s0 s1 y0 y1 y2 y3 y4 x0 x1 x2 x3 q0 q1 q2 q3 q4
   have HBd:=Lib.hid (below_then HBc.out HBc.out.size HBr.out)
   obtain ⟨y0,y1,y2,y3,y4⟩:=S5_blk (blkB HBr.out HBK.out.2.1)
   obtain ⟨x0,x1,x2,x3⟩:=S4_blk (blkB HBr.out HBK.out.2.2.1)
   by_cases hlt:i < v.f3.length
   ·obtain ⟨ad1,hA1,h1⟩:=Kd.at_int (Kd.C_below HV.out HBd.out) (i:Int) (by omega) (by omega)
    have e0:rd v.f3 (i:Int) = v.f3.getD i 0:=by simp [rd]
    rw [Int.toNat_natCast,e0] at h1
    have HST:=Lib.hid (all_stop (p:=fun a=>typeOf f a == v.f1) (d:=0) hlt HP.out)
    have HNX:=Lib.hid (all_next (p:=fun a=>typeOf f a == v.f1) (d:=0) hlt HP.out)
    have hin:inB f.f3.length (v.f3.getD i 0) = true:=List.all_eq_true.1 HSH.out.1 _ (mem_getD 0 hlt)
    clear e0
    generalize v.f3.getD i 0 = y at *
    obtain ⟨p0,p1⟩:=inB_iff hin
    obtain ⟨ad3,B3,d3,hA3,m0,m1,m2,m3,m4,m5⟩:=at_T42 (Kd.C_below HFA.out.r3 HBd.out) y p0 p1
    have m1':wr.cell? ⟨(ad3.add (y.toNat * 4)).block,(ad3.add (y.toNat * 4)).off + 1,none⟩ = some (.int .i64 (typeOf f y)):=m1
    generalize typeOf f y = ty at *
    obtain ⟨bq,hbq⟩:∃ b,(ty == v.f1) = b:=⟨_,rfl⟩
    have hbq':(ty != v.f1) = !bq:=by rw [← hbq];rfl
    rw [hbq] at HST HNX
    have p0t:=eq_true p0
    have p1t:=eq_true p1
    subst hA1 hA3
    clear hin p0 p1 m0 m1 m2 m3 m4 m5 hbq
    have hvb:=HVL.out
    go_upto_region 22 with (fail)
    go_quiet (fail)
    cases bq with
    | false=>
      go_wp2_with (fail)
      go_ret
      exact ⟨ret_bool (by rw [HX.out,HST.out (by simp)];simp),Lib.hid (pw_below_drewN HBd.out _)⟩
    | true=>
      go_wp2_with (fail)
      go_roundg (gk - 1)
      case measure=>have:=HI.out;omega
      case rel=>exact ⟨i + 1,by omega,by go_num,Lib.hid (by have:=HI.out;omega),Lib.hid (HNX.out (by simp)),Lib.hid (pw_below_drewN HBr.out _)⟩
   ·have hie:i = v.f3.length:=by omega
    subst hie
    have HA:Hid (v.f3.all (fun a=>typeOf f a == v.f1) = true):=Lib.hid (by rw [HP.out,List.drop_eq_nil_of_le (by omega)];rfl)
    have HZ:Hid (decide (v.f1 > 0) = fitsB (dOf fs mn f) v):=Lib.hid (by
     rw [HX.out,HA.out]
     have:=HSH.out.2.1
     by_cases e:v.f1 = 0
     ·rw [e];rfl
     ·rw [decide_eq_true (by omega)];simp [e])
    clear hlt hi HI HP
    go_wp2_with (fail)
    go_ret
    exact ⟨ret_bool HZ.out,HBd⟩
 have e5:(v.f0 == 32) = false:=by simp [k32]
 by_cases k33:v.f0 = 33
 ·have e6:(v.f0 == 33) = true:=by simp [k33]
  have HZ:Hid (decide (v.f1 > 0) = fitsB (dOf fs mn f) v):=Lib.hid (by
   rw [fit_par k33]
   have:=HSH.out.2.1
   by_cases e:v.f1 = 0
   ·rw [e];rfl
   ·rw [decide_eq_true (by omega)];symm;simpa using e)
  clear k1 k13 k25 k32 k33
  go_wp2_with (fail)
  go_ret
  exact ⟨ret_bool HZ.out,HBc⟩
 have e6:(v.f0 == 33) = false:=by simp [k33]
 have hel:=fit_else (fs:=fs) (mn:=mn) (f:=f) k1 k13 k25 k32 k33 HSH.out.2.2.2.1 HSH.out.2.2.2.2.1
 rw [← HR.out] at hel
 obtain ⟨hl3,hel⟩:=hel
 dsimp only at hel
 have HX:=Lib.hid hel
 have HL3:=Lib.hid hl3
 clear k1 k13 k25 k32 k33 hel hl3
 go_wp2_with (fail)
 go_loopg [14] v.f3.length (fun k v14 wr=>∃ i:Nat,i ≤ v.f3.length ∧ v14 = .int .i64 i ∧ Hid (i + k = v.f3.length) ∧ Hid (areB f v.f3 [a,b,cc] = areB f (v.f3.drop i) ([a,b,cc].drop i)) ∧ Hid (Below w3.heap.size w3 wr))
 case atStart=>exact ⟨0,by omega,rfl,Lib.hid (by omega),Lib.hid (by simp),Lib.hid (Below.refl _ _)⟩
 case round=>
  obtain ⟨i,hi,rfl,HI,HP,HBr⟩:=hrel
  clear s0 s1 y0 y1 y2 y3 y4 x0 x1 x2 x3 q0 q1 q2 q3 q4
  have HBd:=Lib.hid (below_then HBc.out HBc.out.size HBr.out)
  obtain ⟨y0,y1,y2,y3,y4⟩:=S5_blk (blkB HBr.out HBK.out.2.1)
  obtain ⟨x0,x1,x2,x3⟩:=S4_blk (blkB HBr.out HBK.out.2.2.1)
  obtain ⟨q0,q1,q2,q3,q4⟩:=S5_blk (blkB HBr.out HBK.out.2.2.2)
  by_cases hlt:i < v.f3.length
  ·obtain ⟨ad1,hA1,h1⟩:=Kd.at_int (Kd.C_below HV.out HBd.out) (i:Int) (by omega) (by omega)
   have e0:rd v.f3 (i:Int) = v.f3.getD i 0:=by simp [rd]
   rw [Int.toNat_natCast,e0] at h1
   have hi3:i < [a,b,cc].length:=by have:=HL3.out;simp;omega
   have HAS:Hid (areB f (v.f3.drop i) ([a,b,cc].drop i) = (typeOf f (v.f3.getD i 0) == [a,b,cc].getD i 0 && areB f (v.f3.drop (i + 1)) ([a,b,cc].drop (i + 1)))):=Lib.hid (are_step hlt hi3)
   have hin:inB f.f3.length (v.f3.getD i 0) = true:=List.all_eq_true.1 HSH.out.1 _ (mem_getD 0 hlt)
   obtain ⟨want,hwant⟩:∃ x,x = [a,b,cc].getD i 0:=⟨_,rfl⟩
   have hcell:wr.cell? ⟨g7,1 + i,none⟩ = some (.int .i64 want):=by
    rw [hwant]
    have:i = 0 ∨ i = 1 ∨ i = 2:=by simp at hi3;omega
    rcases this with rfl | rfl | rfl
    ·exact q1
    ·exact q2
    ·exact q3
   rw [← hwant] at HAS
   clear e0 hwant
   generalize v.f3.getD i 0 = y at *
   obtain ⟨p0,p1⟩:=inB_iff hin
   obtain ⟨ad3,B3,d3,hA3,m0,m1,m2,m3,m4,m5⟩:=at_T42 (Kd.C_below HFA.out.r3 HBd.out) y p0 p1
   have m1':wr.cell? ⟨(ad3.add (y.toNat * 4)).block,(ad3.add (y.toNat * 4)).off + 1,none⟩ = some (.int .i64 (typeOf f y)):=m1
   generalize typeOf f y = ty at *
   obtain ⟨bq,hbq⟩:∃ b,(ty == want) = b:=⟨_,rfl⟩
   have hbq':(ty != want) = !bq:=by rw [← hbq];rfl
   rw [hbq] at HAS
   have p0t:=eq_true p0
   have p1t:=eq_true p1
   have hi3n:(i:Int) < 3:=by simp at hi3;omega
   have hi3t:=eq_true hi3n
   subst hA1 hA3
   clear hin p0 p1 m0 m1 m2 m3 m4 m5 hbq q0 q1 q2 q3 q4 hi3 hi3n
   have hvb:=HVL.out
   go_upto_region 30 with (fail)
   go_quiet (fail)
   cases bq with
   | false=>
     go_wp2_with (fail)
     go_ret
     exact ⟨ret_bool (by rw [HX.out,HP.out,HAS.out];simp),Lib.hid (pw_below_drewN HBd.out _)⟩
   | true=>
     go_wp2_with (fail)
     go_roundg (gk - 1)
     case measure=>have:=HI.out;omega
     case rel=>exact ⟨i + 1,by omega,by go_num,Lib.hid (by have:=HI.out;omega),Lib.hid (by rw [HP.out,HAS.out];simp),Lib.hid (pw_below_drewN HBr.out _)⟩
  ·have hie:i = v.f3.length:=by omega
   subst hie
   have HZ:Hid ((v.f1 == t) = fitsB (dOf fs mn f) v):=Lib.hid (by
    rw [HX.out,HP.out,List.drop_eq_nil_of_le (by omega)]
    simp [areB])
   clear hlt hi HI HP
   go_wp2_with (fail)
   go_ret
   exact ⟨ret_bool HZ.out,HBd⟩
end Go.Proofs.Ytgbeliajhccndaa
end
section
set_option linter.unusedVariables false
set_option linter.unusedSimpArgs false
namespace Go.Proofs.Ytgbeliajhccndaa
open Go.RowKit Go.Proofs.YtgbeliajhccndaaW.PrintWords Go.Proofs.YtgbeliajhccndaaW.PrintLast Go.Proofs.YtgbeliajhccndaaW.PrintMore PP
theorem term_kind {f:S38} {t:S44} (h:termB f t = true):(t.f1 < 0 ∧ t.f1 = -1) ∨ (0 ≤ t.f1 ∧ t.f1 < (f.f3.length:Int) ∧ (t.f0 = 2 ∨ t.f0 = 3 ∨ t.f0 = 4)):=by
 obtain ⟨k,v,l⟩:=t
 by_cases hk:1 ≤ k ∧ k ≤ 4
 ·rw [term_row hk,Bool.and_eq_true] at h
  have h2:=h.2
  unfold valI at h2
  dsimp only
  by_cases c:k = 1 ∨ k = 3 ∧ f.f2 = 0
  ·rw [if_pos c] at h2
   have:=beq_iff_eq.1 h2
   omega
  ·rw [if_neg c] at h2
   have:=inB_iff h2
   omega
 ·rw [term_k0 (by omega)] at h
  exact absurd h (by decide)
set_option maxRecDepth 100000 in
set_option maxHeartbeats 4000000 in
theorem rtypes_any (fs:List S38) (mn:Int) (A:Option Addr) (c:Nat) (f:S38) (A1:Option Addr) (c1:Nat) (A3:Option Addr) (c3:Nat) (A4:Option Addr) (c4:Nat) (w:World)
 (hfs:k38.C w A fs.length fs) (hc:fs.length ≤ c) (hf:FA w f A1 c1 A3 c3 A4 c4) (hL:LimF f)
 (hq:∀ v ∈ f.f3,qB fs f v = true) (hT:∀ a,inB f.f3.length a = true → 0 ≤ typeOf f a) (hP:∀ h ∈ fs,h.f1.all (inB h.f3.length) = true) (hE:∀ b ∈ f.f4,termB f b.f2 = true) :
 Calls Try.prog 57 #[.agg #[.slice A fs.length c,.int .i64 mn],.agg #[.string f.f0,.slice A1 f.f1.length c1,.int .i64 f.f2,.slice A3 f.f3.length c3,.slice A4 f.f4.length c4]] w fun e W=>e = .returned (.bool (typesB (dOf fs mn f))) ∧ Hid (Below w.heap.size w W):=by
 have htb:typesB (dOf fs mn f) = (f.f3.all (fitsB (dOf fs mn f)) && f.f4.all (endB f)):=rfl
 have HTB:=Lib.hid htb
 have HL:=Lib.hid hL
 have HC:=Lib.hid hc
 have HFS:=Lib.hid hfs
 have HFA:=Lib.hid hf
 have HQQ:=Lib.hid hq
 have HT:=Lib.hid hT
 have HPP:=Lib.hid hP
 have HEE:=Lib.hid hE
 clear hfs hf hL hc hq hT hP hE htb
 go_enter Try.func57,Try.ntmps57
 go_upto_region 1 with (fail)
 obtain ⟨w1,hw1⟩:∃ w1,w1 = ((w.alloc (.cells #[.slice A fs.length c,.int .i64 mn] 24)).alloc (.cells #[.string f.f0,.slice A1 f.f1.length c1,.int .i64 f.f2,.slice A3 f.f3.length c3,.slice A4 f.f4.length c4] 38)):=⟨_,rfl⟩
 obtain ⟨g2,hg2⟩:∃ g,g = w.heap.size:=⟨_,rfl⟩
 obtain ⟨g3,hg3⟩:∃ g,g = w.heap.size + 1:=⟨_,rfl⟩
 have hbx:=box2_blk w (.cells #[.slice A fs.length c,.int .i64 mn] 24) (.cells #[.string f.f0,.slice A1 f.f1.length c1,.int .i64 f.f2,.slice A3 f.f3.length c3,.slice A4 f.f4.length c4] 38)
 have hB:Below w.heap.size w w1:=by rw [hw1];exact box2_below _ _
 rw [← hg3,← hg2,← hw1] at hbx
 rw [← hg3,← hg2,← hw1]
 have HBX:=Lib.hid hbx
 have HB:=Lib.hid hB
 have HF1:=Lib.hid (HFA.out.below hB)
 have HS1:=Lib.hid (Kd.C_below HFS.out hB)
 clear hw1 hg2 hg3 hbx hB HFA HFS
 go_wp2_with (fail)
 go_loopg [5] f.f3.length (fun k v5 wr=>∃ i:Nat,i ≤ f.f3.length ∧ v5 = .int .i64 i ∧ Hid (i + k = f.f3.length) ∧ Hid (f.f3.all (fitsB (dOf fs mn f)) = (f.f3.drop i).all (fitsB (dOf fs mn f))) ∧ Hid (Below w1.heap.size w1 wr))
 case atStart=>exact ⟨0,by omega,rfl,Lib.hid (by omega),Lib.hid (by simp),Lib.hid (Below.refl _ _)⟩
 case round=>
  obtain ⟨i,hi,rfl,HI,HP,HBr⟩:=hrel
  by_cases hlt:i < f.f3.length
  ·obtain ⟨s0,s1⟩:=S2_blk (blkB HBr.out HBX.out.1)
   obtain ⟨y0,y1,y2,y3,y4⟩:=S5_blk (blkB HBr.out HBX.out.2)
   obtain ⟨ad,A5,c5,eA,q0,q1,q2,q3,q4,q5⟩:=at_T42 (Kd.C_below HF1.out.r3 HBr.out) (i:Int) (by omega) (by omega)
   have hx0:rd_T42 f.f3 (i:Int) = f.f3.getD i z42:=by simp [rd_T42]
   have HST:=Lib.hid (all_stop (p:=fitsB (dOf fs mn f)) (d:=z42) hlt HP.out)
   have HNX:=Lib.hid (all_next (p:=fitsB (dOf fs mn f)) (d:=z42) hlt HP.out)
   rw [Int.toNat_natCast] at q0 q1 q2 q3
   have hxm:rd_T42 f.f3 (i:Int) ∈ f.f3:=by rw [hx0];exact mem_getD z42 hlt
   rw [← hx0] at HST HNX
   clear hx0
   generalize rd_T42 f.f3 (i:Int) = x at *
   obtain ⟨q,hq⟩:∃ q,q = fitsB (dOf fs mn f) x:=⟨_,rfl⟩
   have HQ:=Lib.hid hq
   have HFV:Hid (∀ W:World,Below wr.heap.size wr W → Calls Try.prog 79 #[.agg #[.slice A fs.length c,.int .i64 mn],.agg #[.string f.f0,.slice A1 f.f1.length c1,.int .i64 f.f2,.slice A3 f.f3.length c3,.slice A4 f.f4.length c4],.agg #[.int .i64 x.f0,.int .i64 x.f1,.int .i64 x.f2,.slice A5 x.f3.length c5]] W fun e w'=>e = .returned (.bool q) ∧ Hid (Below W.heap.size W w')):=Lib.hid (fun W hW=>by
    rw [hq]
    exact rfits_any fs mn A c f A1 c1 A3 c3 A4 c4 x A5 c5 W (Kd.C_below HS1.out (below_then HBr.out HBr.out.size hW)) HC.out (HF1.out.below (below_then HBr.out HBr.out.size hW)) q4 (Kd.C_below q5 hW) (HL.out.a x hxm) (HQQ.out x hxm) HT.out HPP.out)
   have HDR:Hid (Below wr.heap.size wr wr.drew):=Lib.hid (below_drew (Below.refl _ _))
   subst eA
   clear hq hxm q4 q5
   go_upto_region 4 with (fail)
   go_cut [24] (fun v wx=>v = .bool (!q) ∧ Hid (Below wr.heap.size wr wx))
   case first=>
    go_region_with (first | (go_at_call 79;with_reducible refine Calls.mono (HFV.out _ HDR.out) ?_;rintro e w6 ⟨rfl,HB6⟩) | (go_at_call 79;refine stop_intro ?_))
    all_goals
     go_wp2_with (fail)
     go_meet
     exact ⟨rfl,Lib.hid (undrew HB6.out)⟩
   case rest=>
    obtain ⟨rfl,HBy⟩:=hcut
    clear HFV HDR s0 s1 y0 y1 y2 y3 y4 q0 q1 q2 q3
    have HBn:=Lib.hid (below_then HBr.out HBr.out.size HBy.out)
    clear HBy HBr
    cases q with
    | false=>
      go_wp2_with (fail)
      go_ret
      exact ⟨ret_bool (by rw [HTB.out,HST.out HQ.out.symm];rfl),Lib.hid (below_then HB.out HB.out.size HBn.out)⟩
    | true=>
      have hvb:=HL.out.v
      go_wp2_with (fail)
      go_roundg (gk - 1)
      case measure=>have:=HI.out;omega
      case rel=>exact ⟨i + 1,by omega,by go_num,Lib.hid (by have:=HI.out;omega),Lib.hid (HNX.out HQ.out.symm),HBn⟩
  ·have hie:i = f.f3.length:=by omega
   subst hie
   have HV:Hid (f.f3.all (fitsB (dOf fs mn f)) = true):=Lib.hid (by rw [HP.out,List.drop_eq_nil_of_le (by omega)];rfl)
   obtain ⟨y0,y1,y2,y3,y4⟩:=S5_blk (blkB HBr.out HBX.out.2)
   clear hlt hi HI HP
   go_upto_region 7 with (fail)
   obtain ⟨w2,hw2⟩:∃ w2,w2 = wr.alloc (.cells #[.int .i64 0,.int .i64 0,.int .i64 2,.int .i64 f.f2,.int .i64 1] 3):=⟨_,rfl⟩
   obtain ⟨gw,hgw⟩:∃ g,g = wr.heap.size:=⟨_,rfl⟩
   have hB2:Below wr.heap.size wr w2:=by rw [hw2];exact below_alloc (Below.refl _ _) _
   have hbw:w2.heap[gw]? = some (.cells #[.int .i64 0,.int .i64 0,.int .i64 2,.int .i64 f.f2,.int .i64 1] 3 (0,0)):=by rw [hw2,hgw];exact blk_new wr _
   try rw [← hgw,← hw2]
   have HB2:=Lib.hid (below_then HBr.out HBr.out.size hB2)
   have HBW:=Lib.hid hbw
   clear hw2 hgw hB2 hbw y0 y1 y2 y3 y4 HBr
   go_wp2_with (fail)
   go_loopg [7] f.f4.length (fun k v7 wr3=>∃ i:Nat,i ≤ f.f4.length ∧ v7 = .int .i64 i ∧ Hid (i + k = f.f4.length) ∧ Hid (f.f4.all (endB f) = (f.f4.drop i).all (endB f)) ∧ Hid (Below w2.heap.size w2 wr3))
   case atStart=>exact ⟨0,by omega,rfl,Lib.hid (by omega),Lib.hid (by simp),Lib.hid (Below.refl _ _)⟩
   case round=>
    obtain ⟨i,hi,rfl,HI,HP,HBr⟩:=hrel
    have HBd:=Lib.hid (below_then HB2.out HB2.out.size HBr.out)
    obtain ⟨y0,y1,y2,y3,y4⟩:=S5_blk (blkB HBd.out HBX.out.2)
    by_cases hlt:i < f.f4.length
    ·obtain ⟨ad,B0,d0,B1,d1,B4,d4,B5,d5,eA,x0,x1,x2,x3,x4,x5,l0,r0,l1,r1,l4,r4,l5,r5⟩:=at_T46 (Kd.C_below HF1.out.r4 HBd.out) (i:Int) (by omega) (by omega)
     have hx0:rd_T46 f.f4 (i:Int) = f.f4.getD i z46:=by simp [rd_T46]
     have HST:=Lib.hid (all_stop (p:=endB f) (d:=z46) hlt HP.out)
     have HNX:=Lib.hid (all_next (p:=endB f) (d:=z46) hlt HP.out)
     rw [Int.toNat_natCast] at x0 x1 x2 x3 x4 x5
     have hxm:rd_T46 f.f4 (i:Int) ∈ f.f4:=by rw [hx0];exact mem_getD z46 hlt
     rw [← hx0] at HST HNX
     clear hx0
     generalize rd_T46 f.f4 (i:Int) = x at *
     have HTK:=Lib.hid (term_kind (HEE.out x hxm))
     subst eA
     clear hxm r0 r1 r4 r5 l0 l1 l4 l5
     go_upto_region 11 with (fail)
     obtain ⟨wc,hwc⟩:∃ wc,wc = wr.alloc (.cells #[.int .i64 x.f2.f0,.int .i64 x.f2.f1,.slice B4 x.f2.f2.length d4] 44):=⟨_,rfl⟩
     obtain ⟨gt,hgt⟩:∃ gt,gt = wr.heap.size:=⟨_,rfl⟩
     have hBb:Below wr.heap.size wr wc:=by rw [hwc];exact below_alloc (Below.refl _ _) _
     have hFb:wc.heap[gt]? = some (.cells #[.int .i64 x.f2.f0,.int .i64 x.f2.f1,.slice B4 x.f2.f2.length d4] 44 (0,0)):=by rw [hwc,hgt];exact blk_new wr _
     rw [← hgt,← hwc]
     have HBe:=Lib.hid (below_then HBr.out HBr.out.size hBb)
     have HBf:=Lib.hid (below_then HB2.out HB2.out.size HBe.out)
     clear x0 x1 x2 x3 x4 x5 y0 y1 y2 y3 y4
     obtain ⟨x0,x1,x2⟩:=S3b hFb
     obtain ⟨y0,y1,y2,y3,y4⟩:=S5_blk (blkB HBf.out HBX.out.2)
     obtain ⟨m0,m1,m2,m3,m4⟩:=S5_blk (blkB HBe.out HBW.out)
     clear hwc hgt hBb hFb
     obtain ⟨bad,hbad⟩:∃ bad,bad = !endB f x:=⟨_,rfl⟩
     have HBAD:=Lib.hid hbad
     clear hbad
     go_cut [58] (fun v wx=>v = .bool bad ∧ Hid (Below wc.heap.size wc wx))
     case first=>
      rcases HTK.out with ⟨t0,_⟩ | ⟨t0,t1,t2⟩
      ·have e0:decide (x.f2.f1 ≥ 0) = false:=decide_eq_false (by omega)
       have e1:decide (0 ≤ x.f2.f1) = false:=decide_eq_false (by omega)
       have HZ:Hid (false = bad):=Lib.hid (by rw [HBAD.out];unfold endB;rw [if_neg (by omega)];rfl)
       clear t0
       go_quiet (fail)
       go_wp2
       go_meet
       exact ⟨by rw [HZ.out],Lib.hid (pw_below_drewN (Below.refl _ _) _)⟩
      ·have e0:decide (x.f2.f1 ≥ 0) = true:=decide_eq_true t0
       have e1:decide (0 ≤ x.f2.f1) = true:=decide_eq_true t0
       obtain ⟨ad3,C3,t3,hA3,n0,n1,n2,n3,n4,n5⟩:=at_T42 (Kd.C_below HF1.out.r3 HBf.out) x.f2.f1 t0 t1
       have n1':wc.cell? ⟨(ad3.add (x.f2.f1.toNat * 4)).block,(ad3.add (x.f2.f1.toNat * 4)).off + 1,none⟩ = some (.int .i64 (typeOf f x.f2.f1)):=n1
       have HEB:Hid (endB f x = (typeOf f x.f2.f1 == wantT f x.f2.f0)):=Lib.hid (by unfold endB;rw [if_pos t0])
       obtain ⟨want,hwant⟩:∃ z,z = wantT f x.f2.f0:=⟨_,rfl⟩
       have hcell:wc.cell? ⟨gw,x.f2.f0.toNat,none⟩ = some (.int .i64 want):=by
        rw [hwant]
        rcases t2 with e | e | e
        ·rw [e];exact m2
        ·rw [e];exact m3
        ·rw [e];exact m4
       rw [← hwant] at HEB
       generalize typeOf f x.f2.f1 = ty at *
       obtain ⟨bq,hbq⟩:∃ b,(ty == want) = b:=⟨_,rfl⟩
       have hbq':(ty != want) = !bq:=by rw [← hbq];rfl
       rw [hbq] at HEB
       have HZ:Hid ((!bq) = bad):=Lib.hid (by rw [HBAD.out,HEB.out])
       have t0t:=eq_true t0
       have t1t:=eq_true t1
       have k0:0 ≤ x.f2.f0:=by omega
       have k1:x.f2.f0 < 5:=by omega
       have k0t:=eq_true k0
       have k1t:=eq_true k1
       subst hA3
       clear t0 t1 t2 n0 n1 n2 n3 n4 n5 hbq hwant m0 m1 m2 m3 m4 k0 k1
       go_quiet (fail)
       go_wp2
       go_meet
       exact ⟨by rw [HZ.out],Lib.hid (pw_below_drewN (Below.refl _ _) _)⟩
     case rest=>
      obtain ⟨rfl,HBy⟩:=hcut
      have HBn:=Lib.hid (below_then HBe.out HBe.out.size HBy.out)
      clear y0 y1 y2 y3 y4 x0 x1 x2 m0 m1 m2 m3 m4
      cases bad with
      | true=>
        have HZ:Hid (endB f x = false):=Lib.hid (by have:=HBAD.out;revert this;cases endB f x <;> simp)
        go_wp2_with (fail)
        go_ret
        exact ⟨ret_bool (by rw [HTB.out,HST.out HZ.out];simp),Lib.hid (below_then HB.out HB.out.size (below_then HB2.out HB2.out.size HBn.out))⟩
      | false=>
        have HZ:Hid (endB f x = true):=Lib.hid (by have:=HBAD.out;revert this;cases endB f x <;> simp)
        have hvb:=HL.out.b
        go_wp2_with (fail)
        go_roundg (gk - 1)
        case measure=>have:=HI.out;omega
        case rel=>exact ⟨i + 1,by omega,by go_num,Lib.hid (by have:=HI.out;omega),Lib.hid (HNX.out HZ.out),HBn⟩
    ·have hie:i = f.f4.length:=by omega
     subst hie
     have HZ:Hid (true = typesB (dOf fs mn f)):=Lib.hid (by rw [HTB.out,HV.out,HP.out,List.drop_eq_nil_of_le (by omega)];rfl)
     clear hlt hi HI HP
     go_wp2_with (fail)
     go_ret
     exact ⟨ret_bool HZ.out,Lib.hid (below_then HB.out HB.out.size HBd.out)⟩
end Go.Proofs.Ytgbeliajhccndaa
end
section
set_option linter.unusedVariables false
set_option linter.unusedSimpArgs false
namespace Go.Proofs.Ytgbeliajhccndaa
open Go.RowKit Go.Proofs.YtgbeliajhccndaaW.PrintWords Go.Proofs.YtgbeliajhccndaaW.PrintLast Go.Proofs.YtgbeliajhccndaaW.PrintMore PP
theorem rdL2_nat (ts:List (List Int)) (x:Int):rd_L2 ts x = ts.getD x.toNat []:=rfl
def Past (ts:List (List Int)) (out:Int) (n:Nat) (S:List Bool):Prop:=S.length = n ∧ ∀ y,inB n y = true → (S.getD y.toNat false = true ↔ Way ts out y)
section
variable {ts:List (List Int)} {out:Int} {n:Nat}
theorem MInv.past {i:Nat} {seen:List Bool} {l:List Int} (h:MInv ts out n i seen l) (hi:¬ i < l.length):Past ts out n seen:=by
 refine ⟨h.sl,fun y hy=>?_⟩
 obtain ⟨t0,t1⟩:=inB_iff hy
 have hle:=h.le
 have h1:=h.seen_ y.toNat (by omega)
 rw [Int.toNat_of_nonneg t0] at h1
 rw [h1]
 constructor
 ·exact fun hm=>(h.way _ hm).2
 ·intro hw
  refine hw.ind (fun _=>h.zero) (fun p x hp hpl he hne=>?_)
  obtain ⟨j,hj,ej⟩:=List.mem_iff_getElem.1 hpl
  refine h.done j (by omega) x ?_ hne
  have ep:l.getD j 0 = p:=by rw [List.getD_eq_getElem?_getD,List.getElem?_eq_getElem hj,ej];rfl
  rw [ep]
  exact he
theorem drop_app {l:List Int} {i:Nat} {v:Int} (hi:i ≤ l.length):(l ++ [v]).drop i = l.drop i ++ [v]:=by rw [List.drop_append_of_le_length hi]
theorem wo_l1 (hts:ts.length = n) (hn:n ≤ 1000000000) {i:Nat}
 (ih:∀ seen l,MInv ts out n (i + 1) seen l → ∃ S,Past ts out n S ∧ Ev (fun k=>quernref8_Without.l0 k ts out seen (l.drop (i + 1))) S)
 {x:Int} {nx:List Int} (hxb:inB n x = true) (hnx:nx = ts.getD x.toNat []) (hin:nx.all (inB n) = true) (hnl:nx.length ≤ 1000000000) :
 ∀ m q seen l,q + m = nx.length → i < l.length → l.getD i 0 = x → MInv ts out n i seen l → (∀ y ∈ nx.take q,y ≠ out → y ∈ l) →
   ∃ S,Past ts out n S ∧ Ev (fun k=>quernref8_Without.l1 k ts out seen (l.drop (i + 1)) x (q:Int)) S
 | 0,q,seen,l,e,hi,hx,h,hq=>by
   have hle:=h.len
   obtain ⟨x0,x1⟩:=inB_iff hxb
   obtain ⟨S,h1,h2⟩:=ih seen l ⟨h.sl,h.zero,h.way,h.seen_,h.nd,by omega,fun j hj y hy hne=>by
    by_cases e2:j = i
    ·subst e2
     rw [hx,← hnx] at hy
     rw [List.take_of_length_le (by omega)] at hq
     exact hq y hy hne
    ·exact h.done j (by omega) y hy hne⟩
   exact ⟨S,h1,Ev.step (fun k=>by rw [quernref8_Without.l1,if_pos x0,if_pos (by omega),if_neg (by rw [rdL2_nat,← hnx];omega)]) h2⟩
 | m + 1,q,seen,l,e,hi,hx,h,hq=>by
   have hle:=h.len
   obtain ⟨x0,x1⟩:=inB_iff hxb
   have hql:q < nx.length:=by omega
   have hv:=List.all_eq_true.1 hin (nx.getD q 0) (mem_getD 0 hql)
   obtain ⟨v0,v1⟩:=inB_iff hv
   have htk:nx.take (q + 1) = nx.take q ++ [nx.getD q 0]:=by
    rw [List.take_succ_eq_append_getElem hql,List.getD_eq_getElem?_getD,List.getElem?_eq_getElem hql]
    rfl
   obtain ⟨v,hvd⟩:∃ v,v = nx.getD q 0:=⟨_,rfl⟩
   rw [← hvd] at hv v0 v1 htk
   by_cases e1:v = out
   ·obtain ⟨S,h1,h2⟩:=wo_l1 hts hn ih hxb hnx hin hnl m (q + 1) seen l (by omega) hi hx h (fun y hy hne=>by
     rw [htk] at hy
     rcases List.mem_append.1 hy with hy | hy
     ·exact hq y hy hne
     ·rw [List.mem_singleton.1 hy] at hne
      exact absurd e1 hne)
    exact ⟨S,h1,Ev.step (fun k=>by rw [quernref8_Without.l1,if_pos x0,if_pos (by omega),rdL2_nat,← hnx,if_pos (by omega),if_pos (by omega),rd_nat,← hvd,if_pos e1,wrap_nat q (by omega)]) h2⟩
   ·by_cases e2:seen.getD v.toNat false = true
    ·have hvl:v ∈ l:=by
      have:=(h.seen_ v.toNat (by omega)).1 e2
      rwa [Int.toNat_of_nonneg v0] at this
     obtain ⟨S,h1,h2⟩:=wo_l1 hts hn ih hxb hnx hin hnl m (q + 1) seen l (by omega) hi hx h (fun y hy hne=>by
      rw [htk] at hy
      rcases List.mem_append.1 hy with hy | hy
      ·exact hq y hy hne
      ·rw [List.mem_singleton.1 hy]
       exact hvl)
     exact ⟨S,h1,Ev.step (fun k=>by rw [quernref8_Without.l1,if_pos x0,if_pos (by omega),rdL2_nat,← hnx,if_pos (by omega),if_pos (by omega),rd_nat,← hvd,if_neg e1,if_pos v0,if_pos (by rw [h.sl];exact v1),rdOf_nat,if_pos e2,wrap_nat q (by omega)]) h2⟩
    ·have hvl:v ∉ l:=fun hm=>e2 ((h.seen_ v.toNat (by omega)).2 (by rwa [Int.toNat_of_nonneg v0]))
     have hw:Way ts out v:=by
      refine (h.way x (by rw [← hx];exact mem_getD 0 hi)).2.step ?_ e1
      show v ∈ ts.getD x.toNat []
      rw [← hnx,hvd]
      exact mem_getD 0 hql
     obtain ⟨S,h1,h2⟩:=wo_l1 hts hn ih hxb hnx hin hnl m (q + 1) (seen.set v.toNat true) (l ++ [v]) (by omega) (by rw [List.length_append];omega) (by
      rw [List.getD_eq_getElem?_getD,List.getElem?_append_left hi,← List.getD_eq_getElem?_getD]
      exact hx) (h.add hv hw hvl) (fun y hy hne=>by
      rw [htk] at hy
      rcases List.mem_append.1 hy with hy | hy
      ·exact List.mem_append_left _ (hq y hy hne)
      ·exact List.mem_append_right _ hy)
     exact ⟨S,h1,Ev.step (fun k=>by rw [quernref8_Without.l1,if_pos x0,if_pos (by omega),rdL2_nat,← hnx,if_pos (by omega),if_pos (by omega),rd_nat,← hvd,if_neg e1,if_pos v0,if_pos (by rw [h.sl];exact v1),rdOf_nat,if_neg e2,if_pos (by rw [List.length_drop];omega),wrap_nat q (by omega),drop_app (by omega)]) h2⟩
theorem wo_l0 (hts:ts.length = n) (hn:n ≤ 1000000000) (hin:∀ l ∈ ts,l.all (inB n) = true ∧ l.length ≤ 1000000000) :
 ∀ m i seen l,i + m = n → MInv ts out n i seen l → ∃ S,Past ts out n S ∧ Ev (fun k=>quernref8_Without.l0 k ts out seen (l.drop i)) S:=by
 have fin:∀ (i:Nat) (seen:List Bool) (l:List Int),¬ i < l.length → MInv ts out n i seen l → ∃ S,Past ts out n S ∧ Ev (fun k=>quernref8_Without.l0 k ts out seen (l.drop i)) S:=fun i seen l hi h=>
  ⟨seen,h.past hi,Ev.step (fun k=>by rw [quernref8_Without.l0,if_neg (by rw [List.length_drop];omega)]) (Ev.now _)⟩
 intro m
 induction m with
 | zero=>
   intro i seen l e h
   exact fin i seen l (by have:=h.len;omega) h
 | succ m ih=>
   intro i seen l e h
   by_cases hi:i < l.length
   ·have hx:=(h.way (l.getD i 0) (mem_getD 0 hi)).1
    obtain ⟨x0,x1⟩:=inB_iff hx
    have hmem:ts.getD (l.getD i 0).toNat [] ∈ ts:=mem_getD [] (by omega)
    obtain ⟨h2,h3⟩:=hin _ hmem
    obtain ⟨S,s1,s2⟩:=wo_l1 hts hn (fun seen l h=>ih (i + 1) seen l (by omega) h) hx rfl h2 h3 (ts.getD (l.getD i 0).toNat []).length 0 seen l (by omega) hi rfl h (fun y hy=>by simp at hy)
    have e1:rd (l.drop i) 0 = l.getD i 0:=by
     show (l.drop i).getD 0 0 = _
     simp [List.getD_eq_getElem?_getD]
    have e2:(l.drop i).drop (1:Int).toNat = l.drop (i + 1):=by
     show (l.drop i).drop 1 = _
     rw [List.drop_drop]
    have hdl:(l.drop i).length = l.length - i:=List.length_drop
    exact ⟨S,s1,Ev.step (fun k=>by rw [quernref8_Without.l0,if_pos (by rw [hdl];omega),if_pos (by rw [hdl];omega),if_pos (by rw [hdl];omega),e1,e2];rfl) s2⟩
   ·exact fin i seen l hi h
theorem without_ev (hts:ts.length = n) (hn:n ≤ 1000000000) (h0:0 < n) (hin:∀ l ∈ ts,l.all (inB n) = true ∧ l.length ≤ 1000000000):∃ S,Past ts out n S ∧ Ev (fun k=>quernref8_Without.f k ts out) S:=by
 have hy:Int.toNat (ts.length:Int) = n:=by omega
 by_cases h:out = 0
 ·refine ⟨List.replicate n false,⟨by simp,fun y hyb=>?_⟩,Ev.congr (fun k=>by
   unfold quernref8_Without.f
   rw [if_pos (by omega),if_pos (by omega),Option.bind_some,if_pos h,hy]) (Ev.now _)⟩
  obtain ⟨y0,y1⟩:=inB_iff hyb
  have e:(List.replicate n false).getD y.toNat false = false:=by
   rw [List.getD_eq_getElem?_getD,List.getElem?_replicate]
   split <;> rfl
  rw [e]
  refine ⟨fun hf=>absurd hf (by decide),fun hw=>?_⟩
  subst h
  exact absurd rfl (show ¬ ((0:Int) = 0) from hw.ind (Q:=fun _=>¬ ((0:Int) = 0)) (fun h=>absurd rfl h) (fun _ _ _ h _ _=>h))
 ·have hM:MInv ts out n 0 ((List.replicate n false).set 0 true) [0]:=by
   have hz:inB n (0:Int) = true:=by simp [inB];omega
   refine ⟨by simp,by simp,fun x hx=>?_,fun j hj=>?_,by simp,by simp,fun j hj=>by omega⟩
   ·rw [List.mem_singleton.1 hx]
    exact ⟨hz,Way.zero (fun e=>h e.symm)⟩
   ·rw [List.getD_eq_getElem?_getD,List.getElem?_set]
    by_cases e:0 = j
    ·subst e
     rw [if_pos rfl,if_pos (by rw [List.length_replicate];exact h0)]
     exact ⟨fun _=>by simp,fun _=>rfl⟩
    ·rw [if_neg e]
     have e':¬ j = 0:=fun h=>e h.symm
     simp [List.getElem?_replicate,hj,e']
  obtain ⟨S,s1,s2⟩:=wo_l0 hts hn hin n 0 _ [0] (by omega) hM
  refine ⟨S,s1,Ev.congr (fun k=>?_) s2⟩
  unfold quernref8_Without.f
  rw [if_pos (by omega),if_pos (by omega),Option.bind_some,if_neg h,if_pos (by rw [List.length_replicate,hy];omega),hy]
  rfl
theorem good_l1 (hts:ts.length = n) (hn:n ≤ 1000000000) {i:Nat} (hi:i < n) (ih:Ev (fun k=>quernref8_Good.l0 k ts ((i + 1:Nat):Int)) true) (hin:(ts.getD i []).all (inB n) = true) (hl:(ts.getD i []).length ≤ 1000000000) :
 ∀ m q:Nat,q + m = (ts.getD i []).length → Ev (fun k=>quernref8_Good.l1 k ts (i:Int) (q:Int)) true
 | 0,q,e=>Ev.step (fun k=>by rw [quernref8_Good.l1,if_pos (by omega),if_pos (by omega),rdL2_nat,Int.toNat_natCast,if_neg (by omega),wrap_nat i (by omega)]) ih
 | m + 1,q,e=>by
   have hql:q < (ts.getD i []).length:=by omega
   obtain ⟨v0,v1⟩:=inB_iff (List.all_eq_true.1 hin _ (mem_getD 0 hql))
   exact Ev.step (fun k=>by rw [quernref8_Good.l1,if_pos (by omega),if_pos (by omega),rdL2_nat,Int.toNat_natCast,if_pos (by omega),if_pos (by omega),rd_nat,if_neg (by omega),if_neg (by omega),wrap_nat q (by omega)]) (good_l1 hts hn hi ih hin hl m (q + 1) (by omega))
theorem good_l0 (hts:ts.length = n) (hn:n ≤ 1000000000) (h0:0 < n) (hin:∀ l ∈ ts,l.all (inB n) = true ∧ l.length ≤ 1000000000):∀ m i:Nat,i + m = n → Ev (fun k=>quernref8_Good.l0 k ts (i:Int)) true
 | 0,i,e=>Ev.step (fun k=>by rw [quernref8_Good.l0,if_neg (by omega),decide_eq_true (by omega)]) (Ev.now _)
 | m + 1,i,e=>by
   obtain ⟨h1,h2⟩:=hin (ts.getD i []) (mem_getD [] (by omega))
   exact Ev.step (fun k=>by rw [quernref8_Good.l0,if_pos (by omega)];rfl) (good_l1 hts hn (by omega) (good_l0 hts hn h0 hin m (i + 1) (by omega)) h1 h2 (ts.getD i []).length 0 (by omega))
theorem reach_ev (hts:ts.length = n) (hn:n ≤ 1000000000) (h0:0 < n) (hin:∀ l ∈ ts,l.all (inB n) = true ∧ l.length ≤ 1000000000):∃ S,Past ts (-1) n S ∧ Ev (fun k=>quernref8_Reach.f k ts) S:=by
 obtain ⟨S,h1,h2⟩:=without_ev (out:=-1) hts hn h0 hin
 refine ⟨S,h1,Ev.bind (good_l0 hts hn h0 hin n 0 (by omega)) ?_⟩
 exact Ev.congr (fun k=>if_pos rfl) (Ev.bind h2 (Ev.now _))
theorem Past.all {S:List Bool} (h:Past ts (-1) n S):S.all id = true ↔ ∀ x,inB n x = true → Way ts (-1) x:=by
 rw [List.all_eq_true]
 constructor
 ·intro hs x hx
  obtain ⟨x0,x1⟩:=inB_iff hx
  exact (h.2 x hx).1 (hs _ (mem_getD false (by rw [h.1];omega)))
 ·intro hw b hb
  obtain ⟨i,hi,e⟩:=List.mem_iff_getElem.1 hb
  have hib:inB n (i:Int) = true:=by have:=h.1;simp [inB];omega
  have:=(h.2 _ hib).2 (hw _ hib)
  rw [Int.toNat_natCast,List.getD_eq_getElem?_getD,List.getElem?_eq_getElem hi,e] at this
  exact this
end
end Go.Proofs.Ytgbeliajhccndaa
end
