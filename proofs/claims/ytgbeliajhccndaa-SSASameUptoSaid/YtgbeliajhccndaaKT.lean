/- Lemmas of this claim (TB,TH). -/
import Derived.Test.YtgbeliajhccndaaKS
import Derived.Test.YtgbeliajhccndaaKR
section
set_option linter.unusedVariables false
set_option linter.unusedSimpArgs false
namespace Go.Proofs.Ytgbeliajhccndaa
open Go.RowKit Go.Proofs.YtgbeliajhccndaaW.PrintWords Go.Proofs.YtgbeliajhccndaaW.PrintLast Go.Proofs.YtgbeliajhccndaaW.PrintMore PP
def StageW (w0:World) (g:Nat) (d:Ck) (j:Nat) (w:World):Prop:=
 if j ≤ 3 then CkB w0 w g d (.slice none 0 0) (.slice none 0 0) (.slice none 0 0) (.slice none 0 0) else if j ≤ 5 then Once w0 w g d (.slice none 0 0) (.slice none 0 0) else Below w0.heap.size w0 w
def StageP (d:Ck) (j:Nat):Prop:=(2 ≤ j → reachE d (lineK d.f) = 0) ∧ (3 ≤ j → phisE d.f = 0)
def restE (d:Ck):Nat → Int
 | 0=>funcE d
 | 1=>if reachE d (lineK d.f) ≠ 0 then reachE d (lineK d.f) else if phisE d.f ≠ 0 then phisE d.f else if onceE d.f ≠ 0 then onceE d.f else if typesE d ≠ 0 then typesE d else usesE d.f (usK d.f)
 | 2=>if phisE d.f ≠ 0 then phisE d.f else if onceE d.f ≠ 0 then onceE d.f else if typesE d ≠ 0 then typesE d else usesE d.f (usK d.f)
 | 3=>if onceE d.f ≠ 0 then onceE d.f else if typesE d ≠ 0 then typesE d else usesE d.f (usK d.f)
 | 4=>if typesE d ≠ 0 then typesE d else usesE d.f (usK d.f)
 | 5=>usesE d.f (usK d.f)
 | _=>0
theorem CkB.then_ {w0 w W:World} {g:Nat} {d:Ck} {v3 v4 v5 v6:Value} (h:CkB w0 w g d v3 v4 v5 v6) (hb:Below w.heap.size w W):CkB w0 W g d v3 v4 v5 v6:=
 ⟨h.at_,h.fs_,h.hc,below_then h.below h.below.size hb,h.ge,blkB hb h.bk⟩
theorem Once.then_ {w0 w W:World} {g:Nat} {d:Ck} {v3 v4:Value} (h:Once w0 w g d v3 v4) (hb:Below w.heap.size w W):Once w0 W g d v3 v4:=by
 obtain ⟨gw,ga,h1,h2,h3,h4⟩:=h
 exact ⟨gw,ga,h1.then_ hb,h2.below hb,h3.below hb,h4⟩
theorem Once.below {w0 w:World} {g:Nat} {d:Ck} {v3 v4:Value} (h:Once w0 w g d v3 v4):Below w0.heap.size w0 w:=by
 obtain ⟨gw,ga,h1,_⟩:=h;exact h1.below
theorem Once.ck {w0 w:World} {g:Nat} {d:Ck} {v3 v4:Value} (h:Once w0 w g d v3 v4):∃ v5 v6,CkW w g d v3 v4 v5 v6:=by
 obtain ⟨gw,ga,h1,_⟩:=h;exact ⟨_,_,h1.ck⟩
theorem StageW.below {w0 w:World} {g:Nat} {d:Ck} {j:Nat} (h:StageW w0 g d j w):Below w0.heap.size w0 w:=by
 unfold StageW at h
 split at h
 ·exact h.below
 ·split at h
  ·exact h.below
  ·exact h
def StepC (fn:Nat) (w0:World) (g:Nat) (d:Ck) (j:Nat) (e:Int) (w:World):Prop:=
 Calls Try.prog fn #[.pointer (some ⟨g,0,none⟩)] w fun r w'=>r = .returned (.int .i64 e) ∧ Hid (StageW w0 g d (j + 1) w') ∧ Hid (e = 0 → StageP d (j + 1)) ∧ Hid (j ≠ 5 → ∀ i,i < w.heap.size → i ≠ g → w'.heap[i]? = w.heap[i]?)
section
variable {w0 w:World} {g:Nat} {d:Ck}
theorem step0 (hs:StageW w0 g d 0 w) (hp:StageP d 0) (hG:Good d) (hn:d.f.f3.length < 262144) (h4:d.f.f4.length ≤ 2000000) (hP:Plain d.f):StepC 21 w0 g d 0 (predsE d.f) w:=
 (preds_any g d _ _ _ _ w (CkB.ck (w0:=w0) hs) hG h4).mono fun r w' h=>⟨h.1,Lib.hid (CkB.then_ (w0:=w0) hs h.2),Lib.hid fun _=>⟨fun h=>by omega,fun h=>by omega⟩,Lib.hid fun _ i hi _=>h.2.block i hi⟩
theorem step1 (hs:StageW w0 g d 1 w) (hp:StageP d 1) (hG:Good d) (hn:d.f.f3.length < 262144) (h4:d.f.f4.length ≤ 2000000) (hP:Plain d.f):StepC 22 w0 g d 1 (reachE d (lineK d.f)) w:=
 (reach_any g d _ _ _ _ KK (lineK d.f) w (CkB.ck (w0:=w0) hs) h4 (ways_good hG) (by decide) hP.l1 hP.l2).mono fun r w' h=>⟨h.1,Lib.hid (CkB.then_ (w0:=w0) hs h.2),Lib.hid fun he=>⟨fun _=>he,fun h=>by omega⟩,Lib.hid fun _ i hi _=>h.2.block i hi⟩
theorem step2 (hs:StageW w0 g d 2 w) (hp:StageP d 2) (hG:Good d) (hn:d.f.f3.length < 262144) (h4:d.f.f4.length ≤ 2000000) (hP:Plain d.f):StepC 23 w0 g d 2 (phisE d.f) w:=
 (phis_any g d _ _ _ _ w (CkB.ck (w0:=w0) hs) hG).mono fun r w' h=>⟨h.1,Lib.hid (CkB.then_ (w0:=w0) hs h.2),Lib.hid fun he=>⟨fun _=>hp.1 (by omega),fun _=>he⟩,Lib.hid fun _ i hi _=>h.2.block i hi⟩
theorem step3 (hs:StageW w0 g d 3 w) (hp:StageP d 3) (hG:Good d) (hn:d.f.f3.length < 262144) (h4:d.f.f4.length ≤ 2000000) (hP:Plain d.f):StepC 24 w0 g d 3 (onceE d.f) w:=
 (once_any g d _ _ _ _ w0 w hs hG hn).mono fun r w' h=>⟨h.1,Lib.hid h.2.1.out,Lib.hid fun he=>⟨fun _=>hp.1 (by omega),fun _=>hp.2 (by omega)⟩,Lib.hid fun _=>h.2.2.out⟩
theorem step4 (hs:StageW w0 g d 4 w) (hp:StageP d 4) (hG:Good d) (hn:d.f.f3.length < 262144) (h4:d.f.f4.length ≤ 2000000) (hP:Plain d.f):StepC 25 w0 g d 4 (typesE d) w:=by
 obtain ⟨v5,v6,hc⟩:=Once.ck (w0:=w0) hs
 exact (types_any g d _ _ _ _ w hc hG).mono fun r w' h=>⟨h.1,Lib.hid (Once.then_ (w0:=w0) hs h.2),Lib.hid fun he=>⟨fun _=>hp.1 (by omega),fun _=>hp.2 (by omega)⟩,Lib.hid fun _ i hi _=>h.2.block i hi⟩
theorem step5 (hs:StageW w0 g d 5 w) (hp:StageP d 5) (hG:Good d) (hn:d.f.f3.length < 262144) (h4:d.f.f4.length ≤ 2000000) (hP:Plain d.f):StepC 26 w0 g d 5 (usesE d.f (usK d.f)) w:=by
 have hr:(reachL (waysL d.f).length (lineK d.f)).all id = true:=by
  have:=hp.1 (by omega)
  unfold reachE at this
  split at this
  ·assumption
  ·cases this
 obtain ⟨t1,t2,t3⟩:=hP.t hr
 exact (uses_any g d _ _ KK (treeK d.f) (lineK d.f) (walkK d.f).1 (walkK d.f).2 w0 w hs hG (hp.2 (by omega)) hn h4 (ways_good hG) (by decide) hP.l1 t1 hP.l2 hP.l3 hP.l4 (ways_two hG) t2 t3 (once_wh hG.some_)).mono fun r w' h=>⟨h.1,Lib.hid h.2,Lib.hid fun he=>⟨fun _=>hp.1 (by omega),fun _=>hp.2 (by omega)⟩,Lib.hid fun h=>absurd rfl h⟩
end
theorem rest_step {d:Ck} {j:Nat} {e:Int} (h:restE d j = if e ≠ 0 then e else restE d (j + 1)) (he:e = 0):restE d j = restE d (j + 1):=by rw [h,if_neg (fun k=>k he)]
set_option maxRecDepth 100000 in
set_option maxHeartbeats 8000000 in
theorem Check_any (fs:List S38) (mn:Int) (A:Option Addr) (c:Nat) (w:World) (hfs:k38.C w A fs.length fs) (hc:fs.length ≤ c) (hnm:∀ f ∈ fs,f.f0.size ≤ 3000000000000) (hsz:∀ f ∈ fs,f.f4.length ≤ 2000000) (hpl:formedB fs mn = true → ∀ f ∈ fs,Plain f) :
 Calls Try.prog 12 #[.agg #[.slice A fs.length c,.int .i64 mn]] w fun e w'=>e = .returned (.int .i64 (checkE fs mn)) ∧ Below w.heap.size w w':=by
 have HFS:=Lib.hid hfs
 have HSZ:=Lib.hid hsz
 have HPL:=Lib.hid hpl
 have hm:=hfs.2.1
 have hbx:=below_alloc (Below.refl w.heap.size w) (.cells #[.slice A fs.length c,.int .i64 mn] 24)
 have HF:=Lib.hid (formed_any fs mn A c _ (Kd.C_below hfs hbx) hc hnm)
 have HBX:=Lib.hid hbx
 have HKS:=Lib.hid (blk_new w (.cells #[.slice A fs.length c,.int .i64 mn] 24))
 have HC:=Lib.hid hc
 obtain ⟨RR,hRR⟩:∃ RR,checkE fs mn = RR:=⟨_,rfl⟩
 have HR0:Hid (∀ b,formedB fs mn = b → RR = if b = true then firstE fs mn fs else 90):=Lib.hid (fun b hb=>by rw [← hRR,checkE,hb])
 rw [hRR]
 clear hfs hsz hpl hbx hnm hRR
 go_enter Try.func12,Try.ntmps12
 go_wp2_with (first | (go_at_call 20;with_reducible refine Calls.mono HF.out ?_;rintro e w1 ⟨b,rfl,HB,hb1⟩;have HB1:=Lib.hid (below_then HBX.out HBX.out.size hb1);have HK1:=Lib.hid (blkB hb1 HKS.out);have z0:=(blk_cell HK1.out 0).trans (Eq.refl _);have z1:=(blk_cell HK1.out 1).trans (Eq.refl _);clear hb1) | (go_at_call 20;refine stop_intro ?_))
 ·have hbf:b = false:=by simpa using ‹(!b) = true›
  have hr:=HR0.out b HB.out
  rw [hbf,if_neg (by decide)] at hr
  have HY:=Lib.hid hr
  clear hr
  go_ret
  exact ⟨ret_i HY.out.symm,HB1.out⟩
 have hbt:b = true:=by simpa using ‹(!b) = false›
 subst hbt
 have HFM:Hid (formedB fs mn = true):=Lib.hid HB.out
 have HR1:Hid (RR = firstE fs mn (fs.drop 0)):=Lib.hid (by have:=HR0.out true HFM.out;rwa [if_pos rfl] at this)
 have HS1:Hid (Below w1.heap.size w1 w1):=Lib.hid (Below.refl _ _)
 clear HR0 HF HB HKS
 clear z0 z1
 obtain ⟨gs,hgs⟩:∃ gs,gs = w.heap.size:=⟨_,rfl⟩
 rw [← hgs] at HK1 ⊢
 clear hgs
 go_loopg [3,4,6,7,14] (fs.length) (fun k _ _ _ _ v wr=>∃ (i:Nat),i ≤ fs.length ∧ v = .int .i64 i ∧ Hid (i + k = fs.length) ∧ Hid (RR = firstE fs mn (fs.drop i)) ∧ Hid (Below w1.heap.size w1 wr))
 case atStart=>exact ⟨0,by omega,rfl,Lib.hid (by omega),HR1,HS1⟩
 case round=>
  clear HR1 HS1
  obtain ⟨i,hi,rfl,HI,HR,HS⟩:=hrel
  by_cases hlt:i < fs.length
  ·have HBW:=Lib.hid (below_then HB1.out HB1.out.size HS.out)
   obtain ⟨ad,A1,c1,A3,c3,A4,c4,hA,hF⟩:=FnAt.of (Kd.C_below HFS.out HBW.out) (i:Int) (by omega) (by omega)
   obtain rfl:=hA
   rw [Int.toNat_natCast] at hF
   have hks:=blkB HS.out HK1.out
   have z0:wr.cell? ⟨gs,0,none⟩ = some (.slice (some ad) fs.length c):=(blk_cell hks 0).trans rfl
   have z1:wr.cell? ⟨gs,1,none⟩ = some (.int .i64 mn):=(blk_cell hks 1).trans rfl
   have HFN:=Lib.hid hF
   have HGO:=Lib.hid (good_of HFM.out hlt (some ad) c (ad.add (i * 5)) A1 c1 A3 c3 A4 c4)
   have HVN:=Lib.hid (formed_vals HFM.out hlt)
   have hx0:rd_T38 fs (i:Int) = fs.getD i z38:=by simp [rd_T38]
   have hmem:=mem_getD z38 hlt
   have HBN:Hid ((rd_T38 fs (i:Int)).f4.length ≤ 2000000):=Lib.hid (by rw [hx0];exact HSZ.out _ hmem)
   have HPN:Hid (Plain (rd_T38 fs (i:Int))):=Lib.hid (by rw [hx0];exact HPL.out HFM.out _ hmem)
   have HST:=Lib.hid (HR.out.trans (firstE_step hlt))
   rw [← hx0] at HST
   clear hx0 hmem hF hks
   generalize rd_T38 fs (i:Int) = f at *
   go_wp2
   go_region
   go_wp2
   obtain ⟨wk,hwk⟩:∃ wk,wk = wr:=⟨_,rfl⟩
   subst hwk
   obtain ⟨wq,hwq⟩:∃ wq,wq = ((wk.alloc (.cells #[.slice (some ad) fs.length c,.int .i64 mn,.pointer (some (ad.add (i * 5))),.slice none 0 0,.slice none 0 0,.slice none 0 0,.slice none 0 0] 58)).alloc (.cells #[.func (.func 21) #[.pointer (some ⟨wk.heap.size,0,none⟩)] #[],.func (.func 22) #[.pointer (some ⟨wk.heap.size,0,none⟩)] #[],.func (.func 23) #[.pointer (some ⟨wk.heap.size,0,none⟩)] #[],.func (.func 24) #[.pointer (some ⟨wk.heap.size,0,none⟩)] #[],.func (.func 25) #[.pointer (some ⟨wk.heap.size,0,none⟩)] #[],.func (.func 26) #[.pointer (some ⟨wk.heap.size,0,none⟩)] #[]] 59)).drew:=⟨_,rfl⟩
   obtain ⟨D,hD⟩:∃ D:Ck,D = ⟨fs,mn,some ad,c,ad.add (i * 5),f,A1,c1,A3,c3,A4,c4⟩:=⟨_,rfl⟩
   have hbq:Below wk.heap.size wk wq:=by rw [hwq];exact below_drew (below_alloc (below_alloc (Below.refl _ _) _) _)
   have hgb:wq.heap[wk.heap.size]? = some (.cells #[.slice (some ad) fs.length c,.int .i64 mn,.pointer (some (ad.add (i * 5))),.slice none 0 0,.slice none 0 0,.slice none 0 0,.slice none 0 0] 58 (0,0)):=by
    rw [hwq];exact blkB (below_drew (below_alloc (Below.refl _ _) _)) (blk_new wk _)
   have hrow:wq.heap[wk.heap.size + 1]? = some (.cells #[.func (.func 21) #[.pointer (some ⟨wk.heap.size,0,none⟩)] #[],.func (.func 22) #[.pointer (some ⟨wk.heap.size,0,none⟩)] #[],.func (.func 23) #[.pointer (some ⟨wk.heap.size,0,none⟩)] #[],.func (.func 24) #[.pointer (some ⟨wk.heap.size,0,none⟩)] #[],.func (.func 25) #[.pointer (some ⟨wk.heap.size,0,none⟩)] #[],.func (.func 26) #[.pointer (some ⟨wk.heap.size,0,none⟩)] #[]] 59 (0,0)):=by
    rw [hwq]
    have:=blk_new (wk.alloc (.cells #[.slice (some ad) fs.length c,.int .i64 mn,.pointer (some (ad.add (i * 5))),.slice none 0 0,.slice none 0 0,.slice none 0 0,.slice none 0 0] 58)) (.cells #[.func (.func 21) #[.pointer (some ⟨wk.heap.size,0,none⟩)] #[],.func (.func 22) #[.pointer (some ⟨wk.heap.size,0,none⟩)] #[],.func (.func 23) #[.pointer (some ⟨wk.heap.size,0,none⟩)] #[],.func (.func 24) #[.pointer (some ⟨wk.heap.size,0,none⟩)] #[],.func (.func 25) #[.pointer (some ⟨wk.heap.size,0,none⟩)] #[],.func (.func 26) #[.pointer (some ⟨wk.heap.size,0,none⟩)] #[]] 59)
    rw [size_alloc'] at this
    exact this
   have hcb:CkB wk wq wk.heap.size D (.slice none 0 0) (.slice none 0 0) (.slice none 0 0) (.slice none 0 0):=by
    rw [hD]
    exact ⟨HFN.out,Kd.C_below HFS.out HBW.out,HC.out,hbq,Nat.le_refl _,hgb⟩
   rw [← hD] at HGO
   have HVN:Hid (D.f.f3.length < 262144):=Lib.hid (by rw [hD];exact HVN.out)
   have HBN:Hid (D.f.f4.length ≤ 2000000):=Lib.hid (by rw [hD];exact HBN.out)
   have HPN:Hid (Plain D.f):=Lib.hid (by rw [hD];exact HPN.out)
   have HFD:Hid (funcE D = funcE (dOf fs mn f)):=Lib.hid (by rw [hD];rfl)
   obtain ⟨FD,hFD⟩:∃ FD,funcE (dOf fs mn f) = FD:=⟨_,rfl⟩
   rw [hFD] at HFD HST
   have HW0:Hid (StageW wk wk.heap.size D 0 wq):=Lib.hid (by unfold StageW;rw [if_pos (by omega)];exact hcb)
   have HP0:Hid (StageP D 0):=Lib.hid ⟨fun h=>by omega,fun h=>by omega⟩
   have HE0:Hid (FD = restE D 0):=Lib.hid HFD.out.symm
   have HR0:Hid (0 ≤ 5 → wq.heap[wk.heap.size + 1]? = some (.cells #[.func (.func 21) #[.pointer (some ⟨wk.heap.size,0,none⟩)] #[],.func (.func 22) #[.pointer (some ⟨wk.heap.size,0,none⟩)] #[],.func (.func 23) #[.pointer (some ⟨wk.heap.size,0,none⟩)] #[],.func (.func 24) #[.pointer (some ⟨wk.heap.size,0,none⟩)] #[],.func (.func 25) #[.pointer (some ⟨wk.heap.size,0,none⟩)] #[],.func (.func 26) #[.pointer (some ⟨wk.heap.size,0,none⟩)] #[]] 59 (0,0))):=Lib.hid (fun _=>hrow)
   have HSW:=HS
   rw [← hwq]
   clear hwq hD hbq hgb hrow hcb hFD HFD z0 z1 HS
   have HKL:Hid (wk.heap.size + 1 < wq.heap.size):=Lib.hid (blk_lt (HR0.out (by omega)))
   obtain ⟨g,hg⟩:∃ g,g = wk.heap.size:=⟨_,rfl⟩
   have HGG:=Lib.hid hg
   rw [← hg] at HW0 HR0 HKL ⊢
   clear hg
   generalize gk = gk1 at *
   go_loopg [6,7,38] 6 (fun k _ _ v wr=>∃ (j:Nat),j ≤ 6 ∧ v = .int .i64 j ∧ Hid (j + k = 6) ∧ Hid (StageW wk g D j wr) ∧ Hid (StageP D j) ∧ Hid (FD = restE D j) ∧ Hid (j ≤ 5 → wr.heap[g + 1]? = some (.cells #[.func (.func 21) #[.pointer (some ⟨g,0,none⟩)] #[],.func (.func 22) #[.pointer (some ⟨g,0,none⟩)] #[],.func (.func 23) #[.pointer (some ⟨g,0,none⟩)] #[],.func (.func 24) #[.pointer (some ⟨g,0,none⟩)] #[],.func (.func 25) #[.pointer (some ⟨g,0,none⟩)] #[],.func (.func 26) #[.pointer (some ⟨g,0,none⟩)] #[]] 59 (0,0))))
   case atStart=>exact ⟨0,by omega,rfl,Lib.hid (by omega),HW0,HP0,HE0,HR0⟩
   case round=>
    clear HW0 HP0 HE0 HR0
    obtain ⟨j,hj,rfl,HJ,HW,HP,HE,HRW⟩:=hrel
    have hjc:j = 0 ∨ j = 1 ∨ j = 2 ∨ j = 3 ∨ j = 4 ∨ j = 5 ∨ j = 6:=by omega
    rcases hjc with rfl | rfl | rfl | rfl | rfl | rfl | rfl
    ·have cf:wr.cell? ⟨g + 1,0,none⟩ = some (.func (.func 21) #[.pointer (some ⟨g,0,none⟩)] #[]):=(blk_cell (HRW.out (by omega)) 0).trans rfl
     have hst:=step0 HW.out HP.out HGO.out HVN.out HBN.out HPN.out
     have HRL:=Lib.hid (blk_lt (HRW.out (by omega)))
     obtain ⟨ej,hej⟩:∃ ej,predsE D.f = ej:=⟨_,rfl⟩
     rw [hej] at hst
     unfold StepC at hst
     have HS5:=Lib.hid hst
     have HRS:Hid (restE D 0 = if ej ≠ 0 then ej else restE D 1):=Lib.hid (by rw [← hej];rfl)
     clear hst hej hj
     rw [show ((0:Nat):Int) = 0 from rfl]
     by_cases he:ej = 0
     ·subst he
      go_wp2_with (first | (go_at_call 21;with_reducible refine Calls.mono HS5.out ?_;rintro e w5 ⟨rfl,HW5,HP5,HK5⟩) | (go_at_call 21;refine stop_intro ?_))
      go_roundg (gk - 1)
      case measure=>have:=HJ.out;omega
      case rel=>exact ⟨1,by omega,rfl,Lib.hid (by have:=HJ.out;omega),HW5,Lib.hid (HP5.out (by trivial)),Lib.hid (HE.out.trans (rest_step HRS.out rfl)),Lib.hid (fun _=>(HK5.out (by decide) (g + 1) (by have:=HRL.out;omega) (by omega)).trans (HRW.out (by omega)))⟩
     ·have HY:Hid (RR = ej):=Lib.hid (by
       have h1:FD = ej:=by rw [HE.out,HRS.out,if_pos he]
       rw [HST.out,h1,if_pos he])
      go_wp2_with (first | (go_at_call 21;with_reducible refine Calls.mono HS5.out ?_;rintro e w5 ⟨rfl,HW5,HP5,HK5⟩) | (go_at_call 21;refine stop_intro ?_))
      go_ret
      exact ⟨ret_i HY.out.symm,below_then HBW.out HBW.out.size HW5.out.below⟩
    ·have cf:wr.cell? ⟨g + 1,1,none⟩ = some (.func (.func 22) #[.pointer (some ⟨g,0,none⟩)] #[]):=(blk_cell (HRW.out (by omega)) 1).trans rfl
     have hst:=step1 HW.out HP.out HGO.out HVN.out HBN.out HPN.out
     have HRL:=Lib.hid (blk_lt (HRW.out (by omega)))
     obtain ⟨ej,hej⟩:∃ ej,reachE D (lineK D.f) = ej:=⟨_,rfl⟩
     rw [hej] at hst
     unfold StepC at hst
     have HS5:=Lib.hid hst
     have HRS:Hid (restE D 1 = if ej ≠ 0 then ej else restE D 2):=Lib.hid (by rw [← hej];rfl)
     clear hst hej hj
     rw [show ((1:Nat):Int) = 1 from rfl]
     by_cases he:ej = 0
     ·subst he
      go_wp2_with (first | (go_at_call 22;with_reducible refine Calls.mono HS5.out ?_;rintro e w5 ⟨rfl,HW5,HP5,HK5⟩) | (go_at_call 22;refine stop_intro ?_))
      go_roundg (gk - 1)
      case measure=>have:=HJ.out;omega
      case rel=>exact ⟨2,by omega,rfl,Lib.hid (by have:=HJ.out;omega),HW5,Lib.hid (HP5.out (by trivial)),Lib.hid (HE.out.trans (rest_step HRS.out rfl)),Lib.hid (fun _=>(HK5.out (by decide) (g + 1) (by have:=HRL.out;omega) (by omega)).trans (HRW.out (by omega)))⟩
     ·have HY:Hid (RR = ej):=Lib.hid (by
       have h1:FD = ej:=by rw [HE.out,HRS.out,if_pos he]
       rw [HST.out,h1,if_pos he])
      go_wp2_with (first | (go_at_call 22;with_reducible refine Calls.mono HS5.out ?_;rintro e w5 ⟨rfl,HW5,HP5,HK5⟩) | (go_at_call 22;refine stop_intro ?_))
      go_ret
      exact ⟨ret_i HY.out.symm,below_then HBW.out HBW.out.size HW5.out.below⟩
    ·have cf:wr.cell? ⟨g + 1,2,none⟩ = some (.func (.func 23) #[.pointer (some ⟨g,0,none⟩)] #[]):=(blk_cell (HRW.out (by omega)) 2).trans rfl
     have hst:=step2 HW.out HP.out HGO.out HVN.out HBN.out HPN.out
     have HRL:=Lib.hid (blk_lt (HRW.out (by omega)))
     obtain ⟨ej,hej⟩:∃ ej,phisE D.f = ej:=⟨_,rfl⟩
     rw [hej] at hst
     unfold StepC at hst
     have HS5:=Lib.hid hst
     have HRS:Hid (restE D 2 = if ej ≠ 0 then ej else restE D 3):=Lib.hid (by rw [← hej];rfl)
     clear hst hej hj
     rw [show ((2:Nat):Int) = 2 from rfl]
     by_cases he:ej = 0
     ·subst he
      go_wp2_with (first | (go_at_call 23;with_reducible refine Calls.mono HS5.out ?_;rintro e w5 ⟨rfl,HW5,HP5,HK5⟩) | (go_at_call 23;refine stop_intro ?_))
      go_roundg (gk - 1)
      case measure=>have:=HJ.out;omega
      case rel=>exact ⟨3,by omega,rfl,Lib.hid (by have:=HJ.out;omega),HW5,Lib.hid (HP5.out (by trivial)),Lib.hid (HE.out.trans (rest_step HRS.out rfl)),Lib.hid (fun _=>(HK5.out (by decide) (g + 1) (by have:=HRL.out;omega) (by omega)).trans (HRW.out (by omega)))⟩
     ·have HY:Hid (RR = ej):=Lib.hid (by
       have h1:FD = ej:=by rw [HE.out,HRS.out,if_pos he]
       rw [HST.out,h1,if_pos he])
      go_wp2_with (first | (go_at_call 23;with_reducible refine Calls.mono HS5.out ?_;rintro e w5 ⟨rfl,HW5,HP5,HK5⟩) | (go_at_call 23;refine stop_intro ?_))
      go_ret
      exact ⟨ret_i HY.out.symm,below_then HBW.out HBW.out.size HW5.out.below⟩
    ·have cf:wr.cell? ⟨g + 1,3,none⟩ = some (.func (.func 24) #[.pointer (some ⟨g,0,none⟩)] #[]):=(blk_cell (HRW.out (by omega)) 3).trans rfl
     have hst:=step3 HW.out HP.out HGO.out HVN.out HBN.out HPN.out
     have HRL:=Lib.hid (blk_lt (HRW.out (by omega)))
     obtain ⟨ej,hej⟩:∃ ej,onceE D.f = ej:=⟨_,rfl⟩
     rw [hej] at hst
     unfold StepC at hst
     have HS5:=Lib.hid hst
     have HRS:Hid (restE D 3 = if ej ≠ 0 then ej else restE D 4):=Lib.hid (by rw [← hej];rfl)
     clear hst hej hj
     rw [show ((3:Nat):Int) = 3 from rfl]
     by_cases he:ej = 0
     ·subst he
      go_wp2_with (first | (go_at_call 24;with_reducible refine Calls.mono HS5.out ?_;rintro e w5 ⟨rfl,HW5,HP5,HK5⟩) | (go_at_call 24;refine stop_intro ?_))
      go_roundg (gk - 1)
      case measure=>have:=HJ.out;omega
      case rel=>exact ⟨4,by omega,rfl,Lib.hid (by have:=HJ.out;omega),HW5,Lib.hid (HP5.out (by trivial)),Lib.hid (HE.out.trans (rest_step HRS.out rfl)),Lib.hid (fun _=>(HK5.out (by decide) (g + 1) (by have:=HRL.out;omega) (by omega)).trans (HRW.out (by omega)))⟩
     ·have HY:Hid (RR = ej):=Lib.hid (by
       have h1:FD = ej:=by rw [HE.out,HRS.out,if_pos he]
       rw [HST.out,h1,if_pos he])
      go_wp2_with (first | (go_at_call 24;with_reducible refine Calls.mono HS5.out ?_;rintro e w5 ⟨rfl,HW5,HP5,HK5⟩) | (go_at_call 24;refine stop_intro ?_))
      go_ret
      exact ⟨ret_i HY.out.symm,below_then HBW.out HBW.out.size HW5.out.below⟩
    ·have cf:wr.cell? ⟨g + 1,4,none⟩ = some (.func (.func 25) #[.pointer (some ⟨g,0,none⟩)] #[]):=(blk_cell (HRW.out (by omega)) 4).trans rfl
     have hst:=step4 HW.out HP.out HGO.out HVN.out HBN.out HPN.out
     have HRL:=Lib.hid (blk_lt (HRW.out (by omega)))
     obtain ⟨ej,hej⟩:∃ ej,typesE D = ej:=⟨_,rfl⟩
     rw [hej] at hst
     unfold StepC at hst
     have HS5:=Lib.hid hst
     have HRS:Hid (restE D 4 = if ej ≠ 0 then ej else restE D 5):=Lib.hid (by rw [← hej];rfl)
     clear hst hej hj
     rw [show ((4:Nat):Int) = 4 from rfl]
     by_cases he:ej = 0
     ·subst he
      go_wp2_with (first | (go_at_call 25;with_reducible refine Calls.mono HS5.out ?_;rintro e w5 ⟨rfl,HW5,HP5,HK5⟩) | (go_at_call 25;refine stop_intro ?_))
      go_roundg (gk - 1)
      case measure=>have:=HJ.out;omega
      case rel=>exact ⟨5,by omega,rfl,Lib.hid (by have:=HJ.out;omega),HW5,Lib.hid (HP5.out (by trivial)),Lib.hid (HE.out.trans (rest_step HRS.out rfl)),Lib.hid (fun _=>(HK5.out (by decide) (g + 1) (by have:=HRL.out;omega) (by omega)).trans (HRW.out (by omega)))⟩
     ·have HY:Hid (RR = ej):=Lib.hid (by
       have h1:FD = ej:=by rw [HE.out,HRS.out,if_pos he]
       rw [HST.out,h1,if_pos he])
      go_wp2_with (first | (go_at_call 25;with_reducible refine Calls.mono HS5.out ?_;rintro e w5 ⟨rfl,HW5,HP5,HK5⟩) | (go_at_call 25;refine stop_intro ?_))
      go_ret
      exact ⟨ret_i HY.out.symm,below_then HBW.out HBW.out.size HW5.out.below⟩
    ·have cf:wr.cell? ⟨g + 1,5,none⟩ = some (.func (.func 26) #[.pointer (some ⟨g,0,none⟩)] #[]):=(blk_cell (HRW.out (by omega)) 5).trans rfl
     have hst:=step5 HW.out HP.out HGO.out HVN.out HBN.out HPN.out
     have HRL:=Lib.hid (blk_lt (HRW.out (by omega)))
     obtain ⟨ej,hej⟩:∃ ej,usesE D.f (usK D.f) = ej:=⟨_,rfl⟩
     rw [hej] at hst
     unfold StepC at hst
     have HS5:=Lib.hid hst
     have HRS:Hid (restE D 5 = if ej ≠ 0 then ej else restE D 6):=Lib.hid (by rw [← hej];by_cases hz:usesE D.f (usK D.f) = 0 <;> simp [restE,hz])
     clear hst hej hj
     rw [show ((5:Nat):Int) = 5 from rfl]
     by_cases he:ej = 0
     ·subst he
      go_wp2_with (first | (go_at_call 26;with_reducible refine Calls.mono HS5.out ?_;rintro e w5 ⟨rfl,HW5,HP5,HK5⟩) | (go_at_call 26;refine stop_intro ?_))
      go_roundg (gk - 1)
      case measure=>have:=HJ.out;omega
      case rel=>exact ⟨6,by omega,rfl,Lib.hid (by have:=HJ.out;omega),HW5,Lib.hid (HP5.out (by trivial)),Lib.hid (HE.out.trans (rest_step HRS.out rfl)),Lib.hid (fun h=>by omega)⟩
     ·have HY:Hid (RR = ej):=Lib.hid (by
       have h1:FD = ej:=by rw [HE.out,HRS.out,if_pos he]
       rw [HST.out,h1,if_pos he])
      go_wp2_with (first | (go_at_call 26;with_reducible refine Calls.mono HS5.out ?_;rintro e w5 ⟨rfl,HW5,HP5,HK5⟩) | (go_at_call 26;refine stop_intro ?_))
      go_ret
      exact ⟨ret_i HY.out.symm,below_then HBW.out HBW.out.size HW5.out.below⟩
    ·have h1:FD = 0:=HE.out
     have HST2:Hid (RR = firstE fs mn (fs.drop (i + 1))):=Lib.hid (by rw [HST.out,h1,if_neg (by simp)])
     have HS6:=Lib.hid (below_then HSW.out HSW.out.size HW.out.below)
     rw [show ((6:Nat):Int) = 6 from rfl]
     clear h1
     go_wp2
     go_roundg (gk1 - 1)
     case measure=>have:=HI.out;omega
     case rel=>exact ⟨i + 1,by omega,by go_num,Lib.hid (by have:=HI.out;omega),HST2,HS6⟩
  ·have y:RR = 0:=by rw [HR.out,List.drop_eq_nil_of_le (by omega),firstE]
   have HY:=Lib.hid y
   clear y
   go_wp2
   go_ret
   exact ⟨ret_i HY.out.symm,below_then HB1.out HB1.out.size HS.out⟩
end Go.Proofs.Ytgbeliajhccndaa
end
section
set_option linter.unusedVariables false
set_option linter.unusedSimpArgs false
namespace Go.Proofs.Ytgbeliajhccndaa
open Go.RowKit Go.Proofs.YtgbeliajhccndaaW.PrintWords Go.Proofs.YtgbeliajhccndaaW.PrintLast Go.Proofs.YtgbeliajhccndaaW.PrintMore PP
theorem setB_foldl {n:Nat}:∀ (r:List Int) (l:List Bool) (i:Nat),l.length = n → i < n → (∀ x ∈ r,inB n x = true) → ((r.foldl setB l).getD i false = true ↔ l.getD i false = true ∨ (i:Int) ∈ r)
 | [],l,i,_,_,_=>by simp
 | b :: r,l,i,hl,hi,hr=>by
   obtain ⟨b0,b1⟩:=inB_iff (hr b (by simp))
   rw [List.foldl_cons,setB_foldl r (setB l b) i (by rw [setB_length,hl]) hi (fun x hx=>hr x (by simp [hx]))]
   unfold setB
   rw [List.getD_eq_getElem?_getD,List.getElem?_set]
   by_cases e:b.toNat = i
   ·have e2:(i:Int) = b:=by omega
    rw [if_pos e,if_pos (by omega)]
    simp [e2]
   ·have e2:¬ (i:Int) = b:=by omega
    rw [if_neg e,← List.getD_eq_getElem?_getD,List.mem_cons]
    simp only [e2,false_or]
theorem reachL_all {n:Nat} {r:List Int} (hr:∀ x ∈ r,inB n x = true):(reachL n r).all id = true ↔ ∀ x,inB n x = true → x ∈ r:=by
 have hlen:=reach_len n r
 have hget:∀ i,i < n → ((reachL n r).getD i false = true ↔ (i:Int) ∈ r):=by
  intro i hi
  unfold reachL
  rw [setB_foldl (n:=n) r _ i (by simp) hi hr]
  simp [List.getD_eq_getElem?_getD,List.getElem?_replicate,hi]
 rw [List.all_eq_true]
 constructor
 ·intro h x hx
  obtain ⟨x0,x1⟩:=inB_iff hx
  have:=(hget x.toNat (by omega)).1 (h _ (mem_getD false (by omega)))
  rwa [Int.toNat_of_nonneg x0] at this
 ·intro h x hx
  obtain ⟨i,hi,e⟩:=List.mem_iff_getElem.1 hx
  have:=(hget i (by omega)).2 (h (i:Int) (by simp [inB];omega))
  rw [List.getD_eq_getElem?_getD,List.getElem?_eq_getElem hi,e] at this
  exact this
structure Facts (f:S38):Prop where
 line:Line (waysL f) (lineK f)
 lo:lineOf (waysL f) KK = some (lineK f)
 reach:(reachL (waysL f).length (lineK f)).all id = true ↔ ∀ x,inB (waysL f).length x = true → Way (waysL f) (-1) x
 tree:(∀ x,inB (waysL f).length x = true → Way (waysL f) (-1) x) → treeOf (waysL f) KK = some (treeK f) ∧ Idom (waysL f) (treeK f) ∧ walkOf (treeK f) KK = some (walkK f) ∧
  ∀ x y,inB (waysL f).length x = true → inB (waysL f).length y = true → (Dm (waysL f) x y ↔ tp (walkK f).1 x ≤ tp (walkK f).1 y ∧ tp (walkK f).1 y ≤ tp (walkK f).2 x)
theorem facts_ok {f:S38} (hg:goodB (waysL f) = true) (hn:(waysL f).length ≤ 400000):Facts f:=by
 obtain ⟨r,h1,h2⟩:=lineOf_ok hg (K:=KK) (by unfold KK;omega)
 have hlk:lineK f = r:=by unfold lineK;rw [h1];rfl
 have hline:Line (waysL f) (lineK f):=by rw [hlk];exact h2
 have hlo:lineOf (waysL f) KK = some (lineK f):=by rw [hlk];exact h1
 refine ⟨hline,hlo,?_,fun hr=>?_⟩
 ·rw [reachL_all (fun x hx=>(hline.way x hx).1)]
  exact ⟨fun h x hx=>(hline.way x (h x hx)).2,fun h x hx=>hline.all (h x hx)⟩
 ·obtain ⟨T,t1,t2⟩:=treeOf_ok hg hline hlo hr (by unfold KK;omega)
  have htk:treeK f = T:=by unfold treeK;rw [t1];rfl
  obtain ⟨F,L,w1,w2⟩:=walkOf_ok hg t2 (K:=KK) (by unfold KK;omega)
  have hwk:walkK f = (F,L):=by unfold walkK;rw [htk,w1];rfl
  rw [htk,hwk]
  exact ⟨t1,t2,w1,w2⟩
theorem plain_of {f:S38} (hg:goodB (waysL f) = true) (hn:(waysL f).length ≤ 400000):Plain f:=by
 have hF:=facts_ok hg hn
 have hlen:(lineK f).length ≤ (waysL f).length:=by
  have h1:((lineK f).map Int.toNat).Nodup:=by
   refine (List.pairwise_map).2 (hF.line.nodup.imp_of_mem ?_)
   intro a b ha hb hab e2
   have:=(inB_iff (hF.line.way a ha).1).1
   have:=(inB_iff (hF.line.way b hb).1).1
   omega
  have:=nodup_le (waysL f).length _ h1 (fun x hx=>by
   obtain ⟨b,hb,rfl⟩:=List.mem_map.1 hx
   have:=inB_iff (hF.line.way b hb).1
   omega)
  simpa using this
 refine ⟨hF.lo,List.all_eq_true.2 (fun x hx=>(hF.line.way x hx).1),by omega,?_,fun hr=>?_⟩
 ·obtain ⟨t,e⟩:=hF.line.head
  rw [e];simp
 ·obtain ⟨t1,t2,t3,_⟩:=hF.tree (hF.reach.1 hr)
  refine ⟨t1,fun b hb=>?_,t3⟩
  have hlen:=t2.len
  by_cases e:b = 0
  ·subst e
   have:=t2.root
   unfold tp at this
   rw [show (0:Int).toNat = 0 from rfl] at this
   rw [this];omega
  ·have:=(inB_iff (t2.up (b:Int) (by simp [inB];omega) (by omega)).1).2
   unfold tp at this
   rw [Int.toNat_natCast] at this
   omega
theorem plain_ok {d:Ck} (hG:Good d) (hn:d.f.f4.length ≤ 400000):Plain d.f:=plain_of (ways_good hG) (by simp [waysL];exact hn)
theorem reachE_iff {d:Ck} (hF:Facts d.f):reachE d (lineK d.f) = 0 ↔ ∀ x,inB (waysL d.f).length x = true → Way (waysL d.f) (-1) x:=by
 rw [← hF.reach]
 unfold reachE
 constructor
 ·intro h
  split at h
  ·assumption
  ·cases h
 ·intro h;rw [if_pos h]
def whereV (f:S38) (v:Int):Int:=(onceT f).1.getD v.toNat 0
def atV (f:S38) (v:Int):Int:=(onceT f).2.1.getD v.toNat 0
theorem seen_iff {f:S38} (hF:Facts f) (hr:∀ x,inB (waysL f).length x = true → Way (waysL f) (-1) x) {v b:Int} (hb:inB (waysL f).length b = true) (hw:whereV f v < ((waysL f).length:Int)) :
 seenB (usK f) v b = true ↔ whereV f v < 0 ∨ Dm (waysL f) (whereV f v) b:=by
 obtain ⟨_,_,_,h4⟩:=hF.tree hr
 unfold seenB usK
 simp only [Bool.or_eq_true,Bool.and_eq_true,decide_eq_true_eq]
 show (whereV f v < 0 ∨ tp (walkK f).1 (whereV f v) ≤ tp (walkK f).1 b ∧ tp (walkK f).1 b ≤ tp (walkK f).2 (whereV f v)) ↔ _
 by_cases h0:whereV f v < 0
 ·simp [h0]
 ·rw [← h4 (whereV f v) b (by simp [inB];omega) hb]
theorem Check_ok (fs:List S38) (mn:Int) (A:Option Addr) (c:Nat) (w:World) (hfs:k38.C w A fs.length fs) (hc:fs.length ≤ c) (hsz:∀ f ∈ fs,f.f0.size ≤ 3000000000000 ∧ f.f4.length ≤ 400000) :
 Calls Try.prog 12 #[.agg #[.slice A fs.length c,.int .i64 mn]] w fun e w'=>e = .returned (.int .i64 (checkE fs mn)) ∧ Below w.heap.size w w':=by
 refine Check_any fs mn A c w hfs hc (fun f hf=>(hsz f hf).1) (fun f hf=>by have:=(hsz f hf).2;omega) (fun hform f hf=>?_)
 obtain ⟨i,hi,e⟩:=List.mem_iff_getElem.1 hf
 have hG:=good_of hform hi none 0 ⟨0,0,none⟩ none 0 none 0 none 0
 have he:rd_T38 fs (i:Int) = f:=by simp [rd_T38,List.getD_eq_getElem?_getD,hi,e]
 have:=plain_ok hG (by show (rd_T38 fs (i:Int)).f4.length ≤ _;rw [he];exact (hsz f hf).2)
 rwa [show (⟨fs,mn,none,0,⟨0,0,none⟩,rd_T38 fs (i:Int),none,0,none,0,none,0⟩:Ck).f = f from he] at this
end Go.Proofs.Ytgbeliajhccndaa
end
