/- Lemmas of this claim (YJ,YK,YL). -/
import Derived.Test.YtgbeliajhccndaaKAH
import Derived.Lib.SliceRun
section
set_option linter.unusedVariables false
set_option linter.unusedSimpArgs false
namespace Go.Proofs.Ytgbeliajhccndaa
open Go.RowKit Go.Proofs.YtgbeliajhccndaaW.PrintWords Go.Proofs.YtgbeliajhccndaaW.PrintLast Go.Proofs.YtgbeliajhccndaaW.PrintMore PP
set_option maxRecDepth 100000 in
set_option maxHeartbeats 4000000 in
theorem rWays_any (f:S38) (A1:Option Addr) (c1:Nat) (A3:Option Addr) (c3:Nat) (A4:Option Addr) (c4:Nat) (wo w:World) (hf:FA wo f A1 c1 A3 c3 A4 c4) (hbo:Below wo.heap.size wo w) (hL:LimF f) :
 Calls Try.prog 54 #[.agg #[.string f.f0,.slice A1 f.f1.length c1,.int .i64 f.f2,.slice A3 f.f3.length c3,.slice A4 f.f4.length c4]] w fun e W=>∃ A c hs,e = .returned (.slice A (waysL f).length c) ∧ Hid (kH.R 34 W w.heap.size (fun _=>True) (.slice A (waysL f).length c) hs) ∧ Hid (Rows_ wo hs (waysL f)) ∧ Hid (Below w.heap.size w W):=by
 have HL:=Lib.hid hL
 have HFA:=Lib.hid hf
 have HBO:=Lib.hid hbo
 clear hf hL hbo
 go_enter Try.func54,Try.ntmps54
 go_upto_region 1 with (fail)
 obtain ⟨w1,hw1⟩:∃ w1,w1 = w.alloc (.cells #[.string f.f0,.slice A1 f.f1.length c1,.int .i64 f.f2,.slice A3 f.f3.length c3,.slice A4 f.f4.length c4] 38):=⟨_,rfl⟩
 obtain ⟨g3,hg3⟩:∃ g,g = w.heap.size:=⟨_,rfl⟩
 have hbx:w1.heap[g3]? = some (.cells #[.string f.f0,.slice A1 f.f1.length c1,.int .i64 f.f2,.slice A3 f.f3.length c3,.slice A4 f.f4.length c4] 38 (0,0)):=by rw [hw1,hg3];exact blk_new w _
 have hB:Below w.heap.size w w1:=by rw [hw1];exact below_alloc (Below.refl _ _) _
 rw [← hg3,← hw1]
 have HBX:=Lib.hid hbx
 have HB:=Lib.hid hB
 have HB0:=Lib.hid (below_then HBO.out HBO.out.size hB)
 clear hw1 hg3 hbx hB
 go_wp2_with (fail)
 go_loopg [3,4] f.f4.length (fun k u v wr=>∃ (i:Nat) (hs:List Hd),i ≤ f.f4.length ∧ v = .int .i64 i ∧ hs.length = i ∧ Hid (i + k = f.f4.length) ∧ Hid (kH.R 34 wr w1.heap.size (fun _=>True) u hs) ∧ Hid (Rows_ wo hs ((waysL f).take i)) ∧ Hid (Below w1.heap.size w1 wr))
 case atStart=>exact ⟨0,[],by omega,rfl,rfl,Lib.hid (by omega),Lib.hid (Kd.R_nil _ _ _ _ _),Lib.hid (by simpa using Rows_.nil wo),Lib.hid (Below.refl _ _)⟩
 case round=>
  obtain ⟨i,hs,hi,rfl,hlen,HI,HR,HW,HBr⟩:=hrel
  have HLN:=Lib.hid hlen
  clear hlen
  obtain ⟨y0,y1,y2,y3,y4⟩:=S5_blk (blkB HBr.out HBX.out)
  by_cases hlt:i < f.f4.length
  ·obtain ⟨ad4,B0,d0,B1,d1,B4,d4,B5,d5,hA4,q0,q1,q2,q3,q4,q5,_,_,_,_,l4,r4,_,_⟩:=at_T46 HFA.out.r4 (i:Int) (by omega) (by omega)
   rw [Int.toNat_natCast] at q0 q1 q2 q3 q4 q5
   have q4:=cellB (below_then HB0.out HB0.out.size HBr.out) q4
   have HT:Hid ((waysL f).take (i + 1) = (waysL f).take i ++ [(rd_T46 f.f4 (i:Int)).f2.f2]):=Lib.hid (by
    have hl:i < (waysL f).length:=by simpa [waysL] using hlt
    rw [List.take_succ_eq_append_getElem hl];simp [waysL,rd_T46,List.getD_eq_getElem?_getD,hlt])
   have R4:=Lib.hid r4
   clear r4 q0 q1 q2 q3 q5
   generalize rd_T46 f.f4 (i:Int) = b at *
   subst hA4
   have hvb:=HL.out.b
   go_wp2_with (at_builtin;refine stop_intro ?_)
   unfold Stop
   refine Kd.R_append kH (w0:=w1) w1.heap.size rfl (.tmp 12) (.tmp 20) 73 34 (.slice none 0 0) 24 rfl Try.underlying73 info34 rfl (by decide) (by decide) _ hs ⟨B4,b.f2.f2.length,d4⟩ [.slice B4 b.f2.f2.length d4] (fun _=>True) (fun _=>False) rfl rfl rfl (fun _ h=>h.elim) (fun _ _=>trivial) HR.out HBr.out ?base ?len ?_
   case base=>have:=HBr.out.size;omega
   case len=>have:=HLN.out;omega
   intro v1 w2 hR2 hB2 _ _
   have HR2:=Lib.hid hR2
   have HB2:=Lib.hid hB2
   clear hR2 hB2
   go_wp2
   go_roundg (gk - 1)
   case measure=>have:=HI.out;omega
   case rel=>exact ⟨i + 1,hs ++ [⟨B4,b.f2.f2.length,d4⟩],by omega,by go_num,by have:=HLN.out;simp;omega,Lib.hid (by have:=HI.out;omega),HR2,Lib.hid (by rw [HT.out];exact HW.out.snoc rfl l4 R4.out),HB2⟩
  ·have hil:i = f.f4.length:=by omega
   have hw:(waysL f).take i = waysL f:=List.take_of_length_le (by simp [waysL];omega)
   have HW2:=HW.out
   rw [hw] at HW2
   have hll:hs.length = (waysL f).length:=HW2.1
   have HLL:=Lib.hid hll
   have HWW:=Lib.hid HW2
   obtain ⟨A',c',hv⟩:=Kd.R_slice HR.out
   subst hv
   rw [hll] at HR
   clear hw HW2 hll hil
   go_wp2
   go_ret
   exact ⟨A',c',hs,by rw [HLL.out];rfl,Lib.hid (Kd.R_lower HR.out HB.out.size),HWW,Lib.hid (below_then HB.out HB.out.size HBr.out)⟩
end Go.Proofs.Ytgbeliajhccndaa
end
section
set_option linter.unusedVariables false
set_option linter.unusedSimpArgs false
namespace Go.Proofs.Ytgbeliajhccndaa
open Go.RowKit Go.Proofs.YtgbeliajhccndaaW.PrintWords Go.Proofs.YtgbeliajhccndaaW.PrintLast Go.Proofs.YtgbeliajhccndaaW.PrintMore PP
noncomputable def dmB (ts:List (List Int)) (a b:Int):Bool:=by classical exact decide (Dm ts a b)
theorem dmB_iff {ts:List (List Int)} {a b:Int}:dmB ts a b = true ↔ Dm ts a b:=by unfold dmB;simp
theorem dmB_past {ts:List (List Int)} {a b:Int} {n:Nat} {S:List Bool} (h:Past ts a n S) (hb:inB n b = true):dmB ts a b = !(S.getD b.toNat false):=by
 have h1:=h.2 b hb
 rw [Bool.eq_iff_iff,dmB_iff]
 unfold Dm
 rw [← h1]
 cases S.getD b.toNat false <;> simp
structure SiW (w0 w:World) (g gw gp:Nat) (f:S38) (A:Option Addr) (c:Nat) (ws hs:List Hd):Prop where
 below:Below w0.heap.size w0 w
 bk:w.heap[g]? = some (.cells #[.slice A (waysL f).length c,.slice (some ⟨gp,0,none⟩) f.f3.length f.f3.length,.slice (some ⟨gw,0,none⟩) (waysL f).length (waysL f).length] 107 (0,0))
 wr_:kH.R 34 w w0.heap.size (fun _=>True) (.slice A (waysL f).length c) ws
 wo:Rows_ w0 ws (waysL f)
 pl:PlW w gp f.f3.length (rplT f)
 mm:w.heap[gw]? = some (.cells (hs.map encH).toArray 76 (0,0))
 ml:hs.length = (waysL f).length
 ok:∀ a:Nat,a < (waysL f).length → hs.getD a ⟨none,0,0⟩ = ⟨none,0,0⟩ ∨ ∃ S ad c',hs.getD a ⟨none,0,0⟩ = ⟨some ad,(waysL f).length,c'⟩ ∧ Past (waysL f) (a:Int) (waysL f).length S ∧ Kd.bool.R 4 w w0.heap.size (fun _=>True) (.slice (some ad) (waysL f).length c') S
 ge:w0.heap.size ≤ gw
section
variable {w0 w W:World} {g gw gp:Nat} {f:S38} {A:Option Addr} {c:Nat} {ws hs:List Hd}
theorem SiW.then_ (h:SiW w0 w g gw gp f A c ws hs) (hb:Below w.heap.size w W):SiW w0 W g gw gp f A c ws hs:=
 ⟨below_then h.below h.below.size hb,blkB hb h.bk,Kd.R_below h.wr_ hb,h.wo,h.pl.below hb,blkB hb h.mm,h.ml,fun a ha=>by
  rcases h.ok a ha with e | ⟨S,ad,c',e,h1,h2⟩
  ·exact .inl e
  ·exact .inr ⟨S,ad,c',e,h1,Kd.R_below h2 hb⟩,h.ge⟩
theorem SiW.cell (h:SiW w0 w g gw gp f A c ws hs) {a:Nat} (ha:a < (waysL f).length):w.cell? ⟨gw,a,none⟩ = some (encH (hs.getD a ⟨none,0,0⟩)):=by
 rw [blk_cell h.mm]
 have:=h.ml
 simp [List.getD_eq_getElem?_getD,List.getElem?_eq_getElem (show a < hs.length by omega)]
theorem SiW.wy (h:SiW w0 w g gw gp f A c ws hs):(waysL f).length ≤ c ∧ kR.C w A (waysL f).length (waysL f):=by
 obtain ⟨_,h2,h3⟩:=Kd.R_reads' h.wr_
 have hl:=h.wo.1
 rw [hl] at h3
 exact ⟨h2,rows_C (by rw [hl];exact h3) (h.wo.below h.below)⟩
theorem SiW.n1 (h:SiW w0 w g gw gp f A c ws hs):gw ≠ g:=fun e=>by
 have h1:=h.mm
 rw [e,h.bk] at h1
 injection h1 with h1
 injection h1 with _ h1 _
 exact absurd h1 (by decide)
theorem SiW.set (h:SiW w0 w g gw gp f A c ws hs) {a:Nat} (ha:a < (waysL f).length) {ad:Addr} {c':Nat} {S:List Bool} (h1:Past (waysL f) (a:Int) (waysL f).length S) (h2:Kd.bool.R 4 w w0.heap.size (fun _=>True) (.slice (some ad) (waysL f).length c') S) :
 SiW w0 (w.setCell ⟨gw,a,none⟩ (.slice (some ad) (waysL f).length c')) g gw gp f A c ws (hs.set a ⟨some ad,(waysL f).length,c'⟩):=by
 have hml:=h.ml
 have hne:=h.n1
 refine ⟨below_set h.below h.ge,blk_far h.bk (fun e=>hne e.symm) _,Kd.R_set h.wr_ h.mm (by decide) a _,h.wo,?_,?_,by simpa using hml,fun b hb=>?_,h.ge⟩
 ·obtain ⟨⟨cs,p1,p2,p3⟩,q1,q2,q3⟩:=h.pl
  refine ⟨⟨cs,blk_far p1 (fun e=>?_) _,p2,p3⟩,q1,q2,q3⟩
  have e:gp = gw:=e
  have h3:=h.mm
  rw [← e,p1] at h3
  injection h3 with h3
  injection h3 with _ h3 _
  exact absurd h3 (by decide)
 ·have:=blk_set h.mm a (.slice (some ad) (waysL f).length c')
  rw [this]
  simp [List.map_set,encH]
 ·by_cases e:b = a
  ·subst e
   right
   refine ⟨S,ad,c',?_,h1,Kd.R_set h2 h.mm (by decide) b _⟩
   simp [List.getD_eq_getElem?_getD,hml,hb]
  ·have e2:(hs.set a ⟨some ad,(waysL f).length,c'⟩).getD b ⟨none,0,0⟩ = hs.getD b ⟨none,0,0⟩:=by
    simp only [List.getD_eq_getElem?_getD,List.getElem?_set]
    rw [if_neg (fun h=>e h.symm)]
   rw [e2]
   rcases h.ok b hb with e3 | ⟨S',ad',c'',e3,h3,h4⟩
   ·exact .inl e3
   ·exact .inr ⟨S',ad',c'',e3,h3,Kd.R_set h4 h.mm (by decide) a _⟩
end
theorem S2_Ff {w:World} {g gw i j k:Nat} {v0 v1 u:Value} (z:w.cell? ⟨g,i,none⟩ = some v0 ∧ w.cell? ⟨g,j,none⟩ = some v1) (hne:g ≠ gw):(w.setCell ⟨gw,k,none⟩ u).cell? ⟨g,i,none⟩ = some v0 ∧ (w.setCell ⟨gw,k,none⟩ u).cell? ⟨g,j,none⟩ = some v1:=⟨cellF z.1 hne _,cellF z.2 hne _⟩
structure WaH (f:S38):Prop where
 all:∀ l ∈ waysL f,l.all (inB (waysL f).length) = true ∧ l.length ≤ 1000000000
 n:(waysL f).length ≤ 1000000000
 pos:0 < (waysL f).length
set_option maxRecDepth 100000 in
set_option maxHeartbeats 4000000 in
theorem rOver_any (w0:World) (g gw gp:Nat) (f:S38) (A:Option Addr) (c:Nat) (ws hs:List Hd) (a b:Int) (w:World) (hS:SiW w0 w g gw gp f A c ws hs) (hW:WaH f) (ha:inB (waysL f).length a = true) (hb:inB (waysL f).length b = true) :
 Calls Try.prog 87 #[.pointer (some ⟨g,0,none⟩),.int .i64 a,.int .i64 b] w fun e W=>∃ hs',e = .returned (.bool (dmB (waysL f) a b)) ∧ Hid (SiW w0 W g gw gp f A c ws hs') ∧ Hid (w.grownBy W (some gw)):=by
 obtain ⟨n,hn⟩:∃ n,n = (waysL f).length:=⟨_,rfl⟩
 have HN:=Lib.hid hn
 obtain ⟨a0,a1⟩:=inB_iff ha
 obtain ⟨b0,b1⟩:=inB_iff hb
 have haN:a.toNat < (waysL f).length:=by omega
 have haE:((a.toNat:Nat):Int) = a:=by omega
 obtain ⟨z0,z1,z2⟩:=S3b hS.bk
 have hcl:=hS.cell haN
 have hok:=hS.ok a.toNat haN
 rw [haE] at hok
 have HS:=Lib.hid hS
 have HWA:=Lib.hid hW
 have HBB:=Lib.hid hb
 have HAN:=Lib.hid haN
 have HAE:=Lib.hid haE
 rw [← hn] at a1 b1 z0 z2 hok
 have a0t:=eq_true a0
 have a1t:=eq_true a1
 have b0t:=eq_true b0
 have b1t:=eq_true b1
 clear hS hW ha hb haN haE a0 a1 b0 b1 hn
 have q76:∀ (w:World) (a:Option Addr) (n c n' c':Nat),(binOp .eql 76 (.slice a n c) (.slice none n' c')).run Try.prog w = .ok (.bool a.isNone) w:=fun w a n c n' c'=>Lib.run_eql_slice_nil w _ _ a n c n' c' Try.underlying76
 go_enter Try.func87,Try.ntmps87
 rcases hok with e | ⟨S,ad,c',e,hP,hR⟩
 ·rw [e] at hcl
  replace hcl:w.cell? ⟨gw,a.toNat,none⟩ = some (.slice none 0 0):=hcl
  clear e
  obtain ⟨S,hP,hEv⟩:=without_ev (ts:=waysL f) (out:=a) rfl HWA.out.n HWA.out.pos HWA.out.all
  have HP:=Lib.hid hP
  obtain ⟨K,hK⟩:=hEv
  have HWO:Hid (∀ W:World,Below w.heap.size w W → Calls Try.prog 78 #[.slice A n c,.int .i64 a] W fun e w'=>∃ ad c',e = .returned (.slice (some ad) n c') ∧ Hid (Kd.bool.R 4 w' W.heap.size (fun _=>True) (.slice (some ad) n c') S) ∧ Hid (Below W.heap.size W w')):=Lib.hid (fun W hW=>by
   have hy:=(HS.out.then_ hW).wy
   rw [HN.out]
   refine (quernref8_Without.calls K A c (waysL f) a S W hy.2 hy.1 (hK K (Nat.le_refl _))).mono ?_
   rintro e w' ⟨v0,rfl,h1,h2⟩
   obtain ⟨A',c',e'⟩:=Kd.R_slice h1
   subst e'
   have hC:=(Kd.R_reads' h1).2.2
   have hSl:S.length = (waysL f).length:=hP.1
   obtain ⟨ad,ea,_⟩:=Kd.at_bool hC 0 (by omega) (by have:=HWA.out.pos;omega)
   subst ea
   rw [hSl] at h1 ⊢
   exact ⟨ad,c',rfl,Lib.hid h1,Lib.hid h2⟩)
  have HDR:Hid (Below w.heap.size w w.drew):=Lib.hid (below_drew (Below.refl _ _))
  have HNE:Hid (g ≠ gw):=Lib.hid (fun e=>HS.out.n1 e.symm)
  have yy:=And.intro z0 z2
  clear hP hK z0 z1 z2
  go_upto_region 2 with (fail)
  clear q76
  go_region_held3 (fun w'=>w'.cell? ⟨g,0,none⟩ = some (.slice A n c) ∧ w'.cell? ⟨g,2,none⟩ = some (.slice (some ⟨gw,0,none⟩) n n)) (first | with_reducible exact S2_Dd yy | with_reducible exact yy | with_reducible exact zz | with_reducible exact S2_Ff zz HNE.out | fail) ((first | (go_at_call 78;with_reducible refine Calls.mono (HWO.out _ HDR.out) ?_;rintro e w2 ⟨ad,c',rfl,HR2,HB2⟩;have HB3:=Lib.hid (undrew HB2.out);have zz:=And.intro (cellB HB3.out yy.1) (cellB HB3.out yy.2);have hc2:=cellB HB3.out hcl;have hf2:=blk_frozen (blkB HB3.out HS.out.mm) a.toNat) | (go_at_call 78;refine stop_intro ?_)))
  all_goals
   have hHR:=HR2.out
   have hSl:S.length = n:=by have:=HP.out.1;rw [HN.out];exact this
   have hlow:w0.heap.size ≤ w.drew.heap.size:=HS.out.below.size
   have HS3:=Lib.hid ((HS.out.then_ HB3.out).set HAN.out (ad:=ad) (c':=c') (S:=S) (by rw [HAE.out];exact HP.out) (by rw [← HN.out];exact Kd.R_lower hHR hlow))
   have HG3:Hid (w.grownBy (w2.setCell ⟨gw,a.toNat,none⟩ (.slice (some ad) n c')) (some gw)):=Lib.hid (Lex.grown_row (grown_of_below HB3.out _) _ _)
   rw [← HN.out] at HS3
   have m0:(w2.setCell ⟨gw,a.toNat,none⟩ (.slice (some ad) n c')).cell? ⟨gw,a.toNat,none⟩ = some (.slice (some ad) n c'):=by
    have:=HS3.out.cell HAN.out
    have hml:=HS.out.ml
    have han:=HAN.out
    simpa [List.getD_eq_getElem?_getD,hml,han,encH] using this
   have zs:=S2_Ff (u:=.slice (some ad) n c') (k:=a.toNat) zz HNE.out
   have hC:=(Kd.R_reads' (Kd.R_set hHR (blkB HB3.out HS.out.mm) (by decide) a.toNat (.slice (some ad) n c'))).2.2
   rw [hSl] at hC
   obtain ⟨ad',ea,hx⟩:=Kd.at_bool hC b (of_eq_true b0t) (of_eq_true b1t)
   obtain rfl:=Option.some.inj ea
   have HD:Hid (dmB (waysL f) a b = !(S.getD b.toNat false)):=Lib.hid (dmB_past HP.out HBB.out)
   have hx':(w2.setCell ⟨gw,a.toNat,none⟩ (.slice (some ad) n c')).cell? (ad.add b.toNat) = some (.bool (S.getD b.toNat false)):=hx
   obtain ⟨zs0,zs2⟩:=zs
   clear hx hC hHR hlow yy zz ea hc2 hf2
   generalize S.getD b.toNat false = sb at *
   go_wp2_with (fail)
   go_ret
   exact ⟨_,ret_bool (by rw [HD.out]),HS3,HG3⟩
 ·rw [e] at hcl
  replace hcl:w.cell? ⟨gw,a.toNat,none⟩ = some (.slice (some ad) n c'):=hcl
  have hC:=(Kd.R_reads' hR).2.2
  have hSl:S.length = n:=hP.1
  rw [hSl] at hC
  obtain ⟨ad',ea,hx⟩:=Kd.at_bool hC b (of_eq_true b0t) (of_eq_true b1t)
  obtain rfl:=Option.some.inj ea
  have HD:Hid (dmB (waysL f) a b = !(S.getD b.toNat false)):=Lib.hid (dmB_past hP (by rw [HN.out];exact HBB.out))
  have hx':w.cell? (ad.add b.toNat) = some (.bool (S.getD b.toNat false)):=hx
  clear hx hC hR hP ea e
  generalize S.getD b.toNat false = sb at *
  go_wp2_with (fail)
  go_ret
  exact ⟨hs,ret_bool (by rw [HD.out]),HS,Lib.hid (World.grownBy.refl _ _)⟩
end Go.Proofs.Ytgbeliajhccndaa
end
section
set_option linter.unusedVariables false
set_option linter.unusedSimpArgs false
namespace Go.Proofs.Ytgbeliajhccndaa
open Go.RowKit Go.Proofs.YtgbeliajhccndaaW.PrintWords Go.Proofs.YtgbeliajhccndaaW.PrintLast Go.Proofs.YtgbeliajhccndaaW.PrintMore PP
def whR (f:S38) (v:Int):Int:=(rplT f).1.getD v.toNat 0
def atR (f:S38) (v:Int):Int:=(rplT f).2.1.getD v.toNat 0
noncomputable def endR (f:S38) (v b:Int):Bool:=whR f v == -1 || dmB (waysL f) (whR f v) b
theorem SiW.other {w0 w:World} {g gw gp:Nat} {f:S38} {A:Option Addr} {c:Nat} {ws hs:List Hd} (h:SiW w0 w g gw gp f A c ws hs) {k:Nat} {cs:Array Value} {t:Nat} {fr:Nat × Nat} (hk:w.heap[k]? = some (.cells cs t fr)) (ht:t ≠ 76):k ≠ gw:=fun e=>by
 have h1:=h.mm
 rw [← e,hk] at h1
 injection h1 with h1
 injection h1 with _ h1 _
 exact ht h1
theorem SiW.keep {w0 w W:World} {g gw gp:Nat} {f:S38} {A:Option Addr} {c:Nat} {ws hs:List Hd} (h:SiW w0 w g gw gp f A c ws hs) (hg:w.grownBy W (some gw)) {k:Nat} {cs:Array Value} {t:Nat} {fr:Nat × Nat} (hk:w.heap[k]? = some (.cells cs t fr)) (ht:t ≠ 76):W.heap[k]? = some (.cells cs t fr):=
 (hg.block k (blk_lt hk) (fun e=>h.other hk ht (Option.some.inj e))).trans hk
set_option maxRecDepth 100000 in
set_option maxHeartbeats 4000000 in
theorem rAtEnd_any (w0:World) (g gw gp:Nat) (f:S38) (A:Option Addr) (c:Nat) (ws hs:List Hd) (v b:Int) (w:World) (hS:SiW w0 w g gw gp f A c ws hs) (hW:WaH f) (hv:inB f.f3.length v = true) (hb:inB (waysL f).length b = true)
 (hp:whR f v = -1 ∨ inB (waysL f).length (whR f v) = true) :
 Calls Try.prog 81 #[.pointer (some ⟨g,0,none⟩),.int .i64 v,.int .i64 b] w fun e W=>∃ hs',e = .returned (.bool (endR f v b)) ∧ Hid (SiW w0 W g gw gp f A c ws hs') ∧ Hid (w.grownBy W (some gw)):=by
 obtain ⟨v0,v1⟩:=inB_iff hv
 have hvN:v.toNat < f.f3.length:=by omega
 obtain ⟨z0,z1,z2⟩:=S3b hS.bk
 obtain ⟨p0,p1,p2⟩:=hS.pl.cell hvN
 have p0':w.cell? ⟨gp,v.toNat * 3,none⟩ = some (.int .i64 (whR f v)):=p0
 have HS:=Lib.hid hS
 have HWA:=Lib.hid hW
 have HBB:=Lib.hid hb
 obtain ⟨q1,hq1⟩:∃ q,q = (rplT f).2.1.getD v.toNat 0:=⟨_,rfl⟩
 obtain ⟨q2,hq2⟩:∃ q,q = (rplT f).2.2.getD v.toNat 0:=⟨_,rfl⟩
 rw [← hq1] at p1
 rw [← hq2] at p2
 have v0t:=eq_true v0
 have v1t:=eq_true v1
 obtain ⟨W,hWh⟩:∃ W,W = whR f v:=⟨_,rfl⟩
 have hE:Hid (endR f v b = (W == -1 || dmB (waysL f) W b)):=Lib.hid (by rw [hWh];rfl)
 rw [← hWh] at hp p0'
 clear hS hW hv hb v0 v1 hvN p0 hWh hq1 hq2
 go_enter Try.func81,Try.ntmps81
 go_upto_region 2 with (fail)
 obtain ⟨wa,hwa⟩:∃ wa,wa = w.alloc (.cells #[.int .i64 W,.int .i64 q1,.int .i64 q2] 87):=⟨_,rfl⟩
 obtain ⟨ga,hga⟩:∃ ga,ga = w.heap.size:=⟨_,rfl⟩
 have hBa:Below w.heap.size w wa:=by rw [hwa];exact below_alloc (Below.refl _ _) _
 have hFa:wa.heap[ga]? = some (.cells #[.int .i64 W,.int .i64 q1,.int .i64 q2] 87 (0,0)):=by rw [hwa,hga];exact blk_new w _
 rw [← hga,← hwa]
 have HSa:=Lib.hid (HS.out.then_ hBa)
 have HGa:=Lib.hid (grown_of_below hBa (some gw))
 obtain ⟨x0,x1,x2⟩:=S3b hFa
 clear hwa hga hBa hFa z0 z1 z2 p0' p1 p2
 rcases hp with hp | hp
 ·have e1:(W == -1) = true:=by simp [hp]
  have HZ:Hid (true = endR f v b):=Lib.hid (by rw [hE.out,e1];rfl)
  clear hp
  go_wp2_with (fail)
  go_ret
  exact ⟨hs,ret_bool HZ.out,HSa,HGa⟩
 ·have e1:(W == -1) = false:=by have:=inB_iff hp;simp;omega
  have HZ:Hid (dmB (waysL f) W b = endR f v b):=Lib.hid (by rw [hE.out,e1];rfl)
  have HO:=Lib.hid (rOver_any w0 g gw gp f A c ws hs W b wa HSa.out HWA.out hp HBB.out)
  clear hp
  go_wp2_with (first | (go_at_call 87;with_reducible refine Calls.mono HO.out ?_;rintro e w2 ⟨hs2,rfl,HS2,HG2⟩) | (go_at_call 87;refine stop_intro ?_))
  go_ret
  exact ⟨hs2,ret_bool HZ.out,HS2,Lib.hid (HGa.out.trans HG2.out)⟩
theorem S5_Bb {w W:World} (hb:Below w.heap.size w W) {g:Nat} {a b c d e:Value} (z:w.cell? ⟨g,0,none⟩ = some a ∧ w.cell? ⟨g,1,none⟩ = some b ∧ w.cell? ⟨g,2,none⟩ = some c ∧ w.cell? ⟨g,3,none⟩ = some d ∧ w.cell? ⟨g,4,none⟩ = some e):W.cell? ⟨g,0,none⟩ = some a ∧ W.cell? ⟨g,1,none⟩ = some b ∧ W.cell? ⟨g,2,none⟩ = some c ∧ W.cell? ⟨g,3,none⟩ = some d ∧ W.cell? ⟨g,4,none⟩ = some e:=⟨cellB hb z.1,cellB hb z.2.1,cellB hb z.2.2.1,cellB hb z.2.2.2.1,cellB hb z.2.2.2.2⟩
theorem info76:(Try.prog.info? 76).map (fun i=>(i.zero,i.size,i.bytes)) = some (some (.slice none 0 0),1,24):=by kernel_rfl
def mmC (n:Nat):Array Value:=madeCells (Value.slice none 0 0).cells (n * 1)
theorem mmake_at {n:Nat} (hn:n ≤ 1000000000) (W:World):(Instr.makeSlice 105 (.int .i64 (n:Int)) (.int .i64 (n:Int))).run Try.prog W = .ok (.slice (some ⟨W.heap.size,0,none⟩) n n) (W.alloc (.cells (mmC n) 76)):=by
 obtain ⟨i0,hi,hz,hs,hb⟩:=info_parts info76
 have h:=run_make (P:=Try.prog) W 105 76 i0 _ Try.underlying105 hi hz .i64 .i64 (n:Int) (n:Int) (by omega) (by omega) (by rw [hb];omega) (by omega)
 rw [hs,Int.toNat_natCast] at h
 exact h
theorem mmC_eq (n:Nat):mmC n = ((List.replicate n (⟨none,0,0⟩:Hd)).map encH).toArray:=by
 unfold mmC
 have h:=toList_madeCells_one (Value.slice none 0 0) (n * 1)
 have e:(Value.slice none 0 0).cells = #[Value.slice none 0 0]:=rfl
 rw [e]
 rw [Nat.mul_one] at h
 rw [Nat.mul_one]
 rw [List.map_replicate]
 show madeCells #[Value.slice none 0 0] n = (List.replicate n (Value.slice none 0 0)).toArray
 rw [← h]
attribute [irreducible] mmC
theorem SiW.init {w0 W:World} {g gw gp:Nat} {f:S38} {A:Option Addr} {c:Nat} {ws:List Hd} (h1:Below w0.heap.size w0 W)
 (h2:W.heap[g]? = some (.cells #[.slice A f.f4.length c,.slice (some ⟨gp,0,none⟩) f.f3.length f.f3.length,.slice (some ⟨gw,0,none⟩) f.f4.length f.f4.length] 107 (0,0)))
 (h3:kH.R 34 W w0.heap.size (fun _=>True) (.slice A f.f4.length c) ws) (h4:Rows_ w0 ws (waysL f)) (h5:PlW W gp f.f3.length (rplT f)) (h6:W.heap[gw]? = some (.cells (mmC f.f4.length) 76 (0,0))) (h7:w0.heap.size ≤ gw) :
 SiW w0 W g gw gp f A c ws (List.replicate f.f4.length ⟨none,0,0⟩):=by
 have hl:(waysL f).length = f.f4.length:=by simp [waysL]
 refine ⟨h1,by rw [hl];exact h2,by rw [hl];exact h3,h4,h5,by rw [← mmC_eq];exact h6,by rw [hl];simp,fun a ha=>.inl ?_,h7⟩
 rw [List.getD_eq_getElem?_getD,List.getElem?_replicate]
 split <;> rfl
set_option maxRecDepth 100000 in
set_option maxHeartbeats 4000000 in
theorem rSee_any (f:S38) (A1:Option Addr) (c1:Nat) (A3:Option Addr) (c3:Nat) (A4:Option Addr) (c4:Nat) (w:World) (hf:FA w f A1 c1 A3 c3 A4 c4) (hL:LimF f) (hR:Rng f) :
 Calls Try.prog 80 #[.agg #[.string f.f0,.slice A1 f.f1.length c1,.int .i64 f.f2,.slice A3 f.f3.length c3,.slice A4 f.f4.length c4]] w fun e W=>∃ g gw gp A c ws hs,e = .returned (.pointer (some ⟨g,0,none⟩)) ∧ Hid (SiW w W g gw gp f A c ws hs):=by
 have HL:=Lib.hid hL
 have HR:=Lib.hid hR
 have HFA:=Lib.hid hf
 clear hf hL hR
 go_enter Try.func80,Try.ntmps80
 go_upto_region 1 with (fail)
 obtain ⟨w1,hw1⟩:∃ w1,w1 = w.alloc (.cells #[.string f.f0,.slice A1 f.f1.length c1,.int .i64 f.f2,.slice A3 f.f3.length c3,.slice A4 f.f4.length c4] 38):=⟨_,rfl⟩
 obtain ⟨g3,hg3⟩:∃ g,g = w.heap.size:=⟨_,rfl⟩
 have hbx:w1.heap[g3]? = some (.cells #[.string f.f0,.slice A1 f.f1.length c1,.int .i64 f.f2,.slice A3 f.f3.length c3,.slice A4 f.f4.length c4] 38 (0,0)):=by rw [hw1,hg3];exact blk_new w _
 have hB:Below w.heap.size w w1:=by rw [hw1];exact below_alloc (Below.refl _ _) _
 rw [← hg3,← hw1]
 have HB:=Lib.hid hB
 have y:=S5_blk hbx
 have HWY:Hid (∀ W:World,Below w1.heap.size w1 W → Calls Try.prog 54 #[.agg #[.string f.f0,.slice A1 f.f1.length c1,.int .i64 f.f2,.slice A3 f.f3.length c3,.slice A4 f.f4.length c4]] W fun e w'=>∃ A c hs,e = .returned (.slice A f.f4.length c) ∧ Hid (kH.R 34 w' w.heap.size (fun _=>True) (.slice A f.f4.length c) hs) ∧ Hid (Rows_ w hs (waysL f)) ∧ Hid (Below w1.heap.size w1 w') ∧ Hid (Below W.heap.size W w')):=Lib.hid (fun W hW=>by
  have hl:(waysL f).length = f.f4.length:=by simp [waysL]
  have:=rWays_any f A1 c1 A3 c3 A4 c4 w W HFA.out (below_then HB.out HB.out.size hW) HL.out
  rw [hl] at this
  refine this.mono ?_
  rintro e w' ⟨A,c,hs,rfl,h1,h2,h3⟩
  exact ⟨A,c,hs,rfl,Lib.hid (Kd.R_lower h1.out (Nat.le_trans HB.out.size hW.size)),h2,Lib.hid (below_then hW hW.size h3.out),h3⟩)
 have HPL:Hid (∀ W:World,Below w1.heap.size w1 W → Calls Try.prog 56 #[.agg #[.string f.f0,.slice A1 f.f1.length c1,.int .i64 f.f2,.slice A3 f.f3.length c3,.slice A4 f.f4.length c4]] W fun e w'=>∃ gp,e = .returned (.slice (some ⟨gp,0,none⟩) f.f3.length f.f3.length) ∧ Hid (PlW w' gp f.f3.length (rplT f)) ∧ Hid (Below w1.heap.size w1 w') ∧ Hid (Below W.heap.size W w')):=Lib.hid (fun W hW=>by
  refine (rPlaces_any f A1 c1 A3 c3 A4 c4 W (HFA.out.below (below_then HB.out HB.out.size hW)) HL.out HR.out).mono ?_
  rintro e w' ⟨gp,rfl,_,h2,h3⟩
  exact ⟨gp,rfl,h2,Lib.hid (below_then hW hW.size h3.out),h3⟩)
 have HMK:=mmake_at HL.out.b
 have HDR:Hid (Below w1.heap.size w1 w1.drew):=Lib.hid (below_drew (Below.refl _ _))
 have HW1:Hid (w.heap.size ≤ w1.heap.size):=Lib.hid HB.out.size
 clear hw1 hg3 hbx hB
 have HRF:Hid (Below w1.heap.size w1 w1):=Lib.hid (Below.refl _ _)
 go_region_held3 (fun w'=>w'.cell? ⟨g3,0,none⟩ = some (.string f.f0) ∧ w'.cell? ⟨g3,1,none⟩ = some (.slice A1 f.f1.length c1) ∧ w'.cell? ⟨g3,2,none⟩ = some (.int .i64 f.f2) ∧ w'.cell? ⟨g3,3,none⟩ = some (.slice A3 f.f3.length c3) ∧ w'.cell? ⟨g3,4,none⟩ = some (.slice A4 f.f4.length c4)) (first | with_reducible exact S5_D y | with_reducible exact y | with_reducible exact zz | with_reducible exact S5_O zz _ | with_reducible exact S5_D (S5_O y _) | with_reducible exact S5_O y _ | with_reducible exact S5_O (S5_O zz _) _ | fail) ((first | (go_at_call 54;with_reducible refine Calls.mono (HWY.out _ ?_) ?_;(repeat (first | with_reducible exact HDR.out | with_reducible exact HB54.out | with_reducible exact HB56.out | with_reducible exact HRF.out | (with_reducible refine below_alloc ?_ _) | (with_reducible refine below_drew ?_)));rintro e wW ⟨A,c,ws,rfl,HRW,HRO,HB54,HT54⟩;have zz:=S5_Bb HB54.out y) | (go_at_call 56;with_reducible refine Calls.mono (HPL.out _ ?_) ?_;(repeat (first | with_reducible exact HDR.out | with_reducible exact HB54.out | with_reducible exact HB56.out | with_reducible exact HRF.out | (with_reducible refine below_alloc ?_ _) | (with_reducible refine below_drew ?_)));rintro e wP ⟨gp,rfl,HPP,HB56,HT56⟩;have zz:=S5_Bb HB56.out y) | (go_at_call 54;refine stop_intro ?_) | (go_at_call 56;refine stop_intro ?_)))
 all_goals
  have HN54:=HB54.out.size
  have HN56:=HB56.out.size
  go_wp2_with (fail)
  go_ret
  first
   | (refine ⟨_,wP.heap.size,gp,A,c,ws,List.replicate f.f4.length ⟨none,0,0⟩,rfl,Lib.hid (SiW.init ?h1 ?h2 ?h3 HRO.out ?h5 ?h6 ?h7)⟩
      case h2=>first | exact blk_new _ _ | (rw [← size_alloc' wP (.cells (mmC f.f4.length) 76)];exact blk_new _ _) | (rw [← size_alloc' wW (.cells (mmC f.f4.length) 76)];exact blk_new _ _)
      case h1=>
       refine below_then HB.out HW1.out ?_
       repeat (first | with_reducible exact HB54.out | with_reducible exact HB56.out | with_reducible refine below_alloc ?_ _)
      case h3=>repeat (first | with_reducible exact HRW.out | with_reducible refine Kd.R_alloc ?_ _ | with_reducible refine Kd.R_below ?_ HT56.out)
      case h5=>repeat (first | with_reducible exact HPP.out | with_reducible refine PlW.below ?_ (below_alloc (Below.refl _ _) _) | with_reducible refine PlW.below ?_ HT54.out)
      case h6=>repeat (first | exact blk_new _ _ | refine blkB (below_alloc (Below.refl _ _) _) ?_ | refine blkB HT54.out ?_ | refine blkB HT56.out ?_ | exact blk_new w1 _)
      case h7=>(have:=HW1.out;omega))
   | (refine ⟨_,wW.heap.size,gp,A,c,ws,List.replicate f.f4.length ⟨none,0,0⟩,rfl,Lib.hid (SiW.init ?h1 ?h2 ?h3 HRO.out ?h5 ?h6 ?h7)⟩
      case h2=>first | exact blk_new _ _ | (rw [← size_alloc' wP (.cells (mmC f.f4.length) 76)];exact blk_new _ _) | (rw [← size_alloc' wW (.cells (mmC f.f4.length) 76)];exact blk_new _ _)
      case h1=>
       refine below_then HB.out HW1.out ?_
       repeat (first | with_reducible exact HB54.out | with_reducible exact HB56.out | with_reducible refine below_alloc ?_ _)
      case h3=>repeat (first | with_reducible exact HRW.out | with_reducible refine Kd.R_alloc ?_ _ | with_reducible refine Kd.R_below ?_ HT56.out)
      case h5=>repeat (first | with_reducible exact HPP.out | with_reducible refine PlW.below ?_ (below_alloc (Below.refl _ _) _) | with_reducible refine PlW.below ?_ HT54.out)
      case h6=>repeat (first | exact blk_new _ _ | refine blkB (below_alloc (Below.refl _ _) _) ?_ | refine blkB HT54.out ?_ | refine blkB HT56.out ?_ | exact blk_new w1 _)
      case h7=>(have:=HW1.out;omega))
   | (refine ⟨_,w1.heap.size,gp,A,c,ws,List.replicate f.f4.length ⟨none,0,0⟩,rfl,Lib.hid (SiW.init ?h1 ?h2 ?h3 HRO.out ?h5 ?h6 ?h7)⟩
      case h2=>first | exact blk_new _ _ | (rw [← size_alloc' wP (.cells (mmC f.f4.length) 76)];exact blk_new _ _) | (rw [← size_alloc' wW (.cells (mmC f.f4.length) 76)];exact blk_new _ _)
      case h1=>
       refine below_then HB.out HW1.out ?_
       repeat (first | with_reducible exact HB54.out | with_reducible exact HB56.out | with_reducible refine below_alloc ?_ _)
      case h3=>repeat (first | with_reducible exact HRW.out | with_reducible refine Kd.R_alloc ?_ _ | with_reducible refine Kd.R_below ?_ HT56.out)
      case h5=>repeat (first | with_reducible exact HPP.out | with_reducible refine PlW.below ?_ (below_alloc (Below.refl _ _) _) | with_reducible refine PlW.below ?_ HT54.out)
      case h6=>repeat (first | exact blk_new _ _ | refine blkB (below_alloc (Below.refl _ _) _) ?_ | refine blkB HT54.out ?_ | refine blkB HT56.out ?_ | exact blk_new w1 _)
      case h7=>(have:=HW1.out;omega))
end Go.Proofs.Ytgbeliajhccndaa
end
