/- Lemmas of this claim (SY,SZ,TA). -/
import Derived.Test.YtgbeliajhccndaaKR
section
set_option linter.unusedVariables false
set_option linter.unusedSimpArgs false
namespace Go.Proofs.Ytgbeliajhccndaa
open Go.RowKit Go.Proofs.YtgbeliajhccndaaW.PrintWords Go.Proofs.YtgbeliajhccndaaW.PrintLast Go.Proofs.YtgbeliajhccndaaW.PrintMore PP
structure Us where
 F:List Int
 L:List Int
 W:List Int
 A:List Int
def seenB (u:Us) (v b:Int):Bool:=decide (u.W.getD v.toNat 0 < 0) || (decide (u.F.getD (u.W.getD v.toNat 0).toNat 0 ≤ u.F.getD b.toNat 0) && decide (u.F.getD b.toNat 0 ≤ u.L.getD (u.W.getD v.toNat 0).toNat 0))
def useB (u:Us) (i k a:Int):Bool:=if u.W.getD a.toNat 0 = i then decide (u.A.getD a.toNat 0 < k) else seenB u a i
structure UsW (w0 w:World) (g gf gl gw ga:Nat) (d:Ck) (u:Us):Prop where
 cb:CkB w0 w g d (.slice (some ⟨gf,0,none⟩) d.f.f4.length d.f.f4.length) (.slice (some ⟨gl,0,none⟩) d.f.f4.length d.f.f4.length) (.slice (some ⟨gw,0,none⟩) d.f.f3.length d.f.f3.length) (.slice (some ⟨ga,0,none⟩) d.f.f3.length d.f.f3.length)
 rf:RowI w gf u.F
 rl:RowI w gl u.L
 rw_:RowI w gw u.W
 ra:RowI w ga u.A
 lf:u.F.length = d.f.f4.length
 ll:u.L.length = d.f.f4.length
 lw:u.W.length = d.f.f3.length
 la:u.A.length = d.f.f3.length
 wh:∀ v,v < d.f.f3.length → u.W.getD v 0 < (d.f.f4.length:Int)
theorem UsW.then_ {w0 w W:World} {g gf gl gw ga:Nat} {d:Ck} {u:Us} (h:UsW w0 w g gf gl gw ga d u) (hb:Below w.heap.size w W):UsW w0 W g gf gl gw ga d u:=
 ⟨⟨h.cb.at_,h.cb.fs_,h.cb.hc,below_then h.cb.below h.cb.below.size hb,h.cb.ge,blkB hb h.cb.bk⟩,h.rf.below hb,h.rl.below hb,h.rw_.below hb,h.ra.below hb,h.lf,h.ll,h.lw,h.la,h.wh⟩
set_option maxHeartbeats 2000000 in
theorem atEnd_any (w0:World) (g gf gl gw ga:Nat) (d:Ck) (u:Us) (v b:Int) (w:World) (h:UsW w0 w g gf gl gw ga d u) (hv:inB d.f.f3.length v = true) (hb:inB d.f.f4.length b = true) (hm3:d.f.f3.length ≤ 9223372036854775807) (hm4:d.f.f4.length ≤ 9223372036854775807) :
 Calls Try.prog 48 #[.pointer (some ⟨g,0,none⟩),.int .i64 v,.int .i64 b] w fun e w'=>e = .returned (.bool (seenB u v b)) ∧ ∃ q,w' = w.drewN q:=by
 obtain ⟨v0,v1⟩:=inB_iff hv
 obtain ⟨b0,b1⟩:=inB_iff hb
 have y3:=h.cb.ck.y3
 have y4:=h.cb.ck.y4
 have y5:=h.cb.ck.y5
 have cW:=h.rw_.cell (i:=v.toNat) (by have:=h.lw;omega)
 have hwd:=h.wh v.toNat (by omega)
 have cFb:=h.rf.cell (i:=b.toNat) (by have:=h.lf;omega)
 have HD:Hid (seenB u v b = (decide (u.W.getD v.toNat 0 < 0) || (decide (u.F.getD (u.W.getD v.toNat 0).toNat 0 ≤ u.F.getD b.toNat 0) && decide (u.F.getD b.toNat 0 ≤ u.L.getD (u.W.getD v.toNat 0).toNat 0)))):=Lib.hid rfl
 generalize u.W.getD v.toNat 0 = dd at *
 generalize u.F.getD b.toNat 0 = fb at *
 by_cases hd:dd < 0
 ·have HE:Hid (seenB u v b = true):=Lib.hid (by rw [HD.out,decide_eq_true hd];rfl)
  clear HD h hv hb
  go_enter Try.func48,Try.ntmps48
  go_wp2
  go_quiet (fail)
  go_wp2
  go_ret
  exact ⟨ret_bool (by rw [HE.out];try simp [hd]),_,rfl⟩
 ·have cFd:=h.rf.cell (i:=dd.toNat) (by have:=h.lf;omega)
  have cLd:=h.rl.cell (i:=dd.toNat) (by have:=h.ll;omega)
  generalize u.F.getD dd.toNat 0 = fd at *
  generalize u.L.getD dd.toNat 0 = ld at *
  have hd1:decide (dd < 0) = false:=by simpa using hd
  rw [hd1] at HD
  have hd0:0 ≤ dd:=by omega
  by_cases hle:fd ≤ fb
  ·have hl1:decide (fd ≤ fb) = true:=by simpa using hle
   rw [hl1] at HD
   clear h hv hb
   go_enter Try.func48,Try.ntmps48
   go_wp2
   go_quiet (fail)
   go_wp2
   go_ret
   exact ⟨ret_bool (by rw [HD.out];try rfl),_,rfl⟩
  ·have hl1:decide (fd ≤ fb) = false:=by simpa using hle
   rw [hl1] at HD
   clear h hv hb
   go_enter Try.func48,Try.ntmps48
   go_wp2
   go_quiet (fail)
   go_wp2
   go_ret
   exact ⟨ret_bool (by rw [HD.out];try rfl),_,rfl⟩
set_option maxHeartbeats 2000000 in
theorem use_any (w0:World) (g g2 g3 g4 gf gl gw ga:Nat) (d:Ck) (u:Us) (a:Int) (i k:Nat) (w:World) (h:UsW w0 w g gf gl gw ga d u) (hv:inB d.f.f3.length a = true) (hb:i < d.f.f4.length) (hm3:d.f.f3.length ≤ 9223372036854775807) (hm4:d.f.f4.length ≤ 9223372036854775807)
 (h2:w.cell? ⟨g2,0,none⟩ = some (.pointer (some ⟨g,0,none⟩))) (h3:w.cell? ⟨g3,0,none⟩ = some (.int .i64 (i:Int))) (h4:w.cell? ⟨g4,0,none⟩ = some (.int .i64 (k:Int))) :
 Calls Try.prog 49 #[.int .i64 a,.pointer (some ⟨g2,0,none⟩),.pointer (some ⟨g3,0,none⟩),.pointer (some ⟨g4,0,none⟩)] w fun e w'=>e = .returned (.bool (useB u (i:Int) (k:Int) a)) ∧ Below w.heap.size w w':=by
 obtain ⟨v0,v1⟩:=inB_iff hv
 have y5:=h.cb.ck.y5
 have y6:=h.cb.ck.y6
 have cW:=h.rw_.cell (i:=a.toNat) (by have:=h.lw;omega)
 have cA:=h.ra.cell (i:=a.toNat) (by have:=h.la;omega)
 have HD:Hid (useB u (i:Int) (k:Int) a = if u.W.getD a.toNat 0 = (i:Int) then decide (u.A.getD a.toNat 0 < (k:Int)) else seenB u a (i:Int)):=Lib.hid rfl
 have HU:=Lib.hid h
 have HV:=Lib.hid hv
 have HI:Hid (inB d.f.f4.length (i:Int) = true):=Lib.hid (by simp [inB];omega)
 generalize u.W.getD a.toNat 0 = dd at *
 generalize u.A.getD a.toNat 0 = aa at *
 clear h hv hb
 by_cases hd:dd = (i:Int)
 ·have HE:Hid (useB u (i:Int) (k:Int) a = decide (aa < (k:Int))):=Lib.hid (by rw [HD.out,if_pos hd])
  subst hd
  go_enter Try.func49,Try.ntmps49
  go_wp2
  go_quiet (fail)
  go_wp2
  go_quiet (fail)
  go_wp2
  go_ret
  exact ⟨ret_bool (by rw [HE.out]),by first | exact pw_below_drewN (Below.refl _ _) _ | exact pw_below_drewN (pw_below_drewN (Below.refl _ _) _) _⟩
 ·have HE:Hid (useB u (i:Int) (k:Int) a = seenB u a (i:Int)):=Lib.hid (by rw [HD.out,if_neg hd])
  have hd1:(dd == (i:Int)) = false:=by simpa using hd
  go_enter Try.func49,Try.ntmps49
  go_wp2
  go_quiet (fail)
  go_wp2_with (first | (go_at_call 48;with_reducible refine Calls.mono (atEnd_any w0 g gf gl gw ga d u a (i:Int) _ (HU.out.then_ (pw_below_drewN (Below.refl _ _) _)) HV.out HI.out hm3 hm4) ?_;rintro e w1 ⟨rfl,q,rfl⟩) | (go_at_call 48;refine stop_intro ?_))
  go_ret
  exact ⟨ret_bool (by rw [HE.out]),by first | exact pw_below_drewN (Below.refl _ _) _ | exact pw_below_drewN (pw_below_drewN (Below.refl _ _) _) _⟩
end Go.Proofs.Ytgbeliajhccndaa
end
section
set_option linter.unusedVariables false
set_option linter.unusedSimpArgs false
namespace Go.Proofs.Ytgbeliajhccndaa
open Go.RowKit Go.Proofs.YtgbeliajhccndaaW.PrintWords Go.Proofs.YtgbeliajhccndaaW.PrintLast Go.Proofs.YtgbeliajhccndaaW.PrintMore PP
def argsOf (f:S38) (v:Int):List Int:=(rd_T42 f.f3 v).f3
def pairsB (u:Us):List Int → List Int → Bool
 | [],_=>true
 | _ :: _,[]=>false
 | a :: r,p :: s=>seenB u a p && pairsB u r s
def phiUse (f:S38) (u:Us) (ps:List Int):List Int → Bool
 | []=>true
 | v :: r=>pairsB u (argsOf f v) ps && phiUse f u ps r
def bodyUse (f:S38) (u:Us) (i:Int):Int → List Int → Bool
 | _,[]=>true
 | k,v :: r=>(argsOf f v).all (useB u i k) && bodyUse f u i (k + 1) r
def termUse (u:Us) (i:Int) (b:S46):Bool:=decide (b.f2.f1 < 0) || seenB u b.f2.f1 i
def blkUse (f:S38) (u:Us) (i:Int) (b:S46):Bool:=phiUse f u b.f3 b.f0 && bodyUse f u i 0 b.f1 && termUse u i b
def usesB (f:S38) (u:Us):Int → List S46 → Bool
 | _,[]=>true
 | i,b :: r=>blkUse f u i b && usesB f u (i + 1) r
def usesE (f:S38) (u:Us):Int:=if usesB f u 0 f.f4 = true then 0 else 96
theorem pairs_step {u:Us} {l s:List Int} {i:Nat} (hi:i < l.length) (hs:i < s.length):pairsB u (l.drop i) (s.drop i) = (seenB u (l.getD i 0) (s.getD i 0) && pairsB u (l.drop (i + 1)) (s.drop (i + 1))):=by
 rw [List.drop_eq_getElem_cons hi,List.drop_eq_getElem_cons hs,pairsB]
 simp [List.getD_eq_getElem?_getD,hi,hs]
theorem phiUse_step {f:S38} {u:Us} {ps l:List Int} {i:Nat} (hi:i < l.length):phiUse f u ps (l.drop i) = (pairsB u (argsOf f (l.getD i 0)) ps && phiUse f u ps (l.drop (i + 1))):=by
 rw [List.drop_eq_getElem_cons hi,phiUse];simp [List.getD_eq_getElem?_getD,hi]
theorem bodyUse_step {f:S38} {u:Us} {l:List Int} {j:Int} {i:Nat} (hi:i < l.length):bodyUse f u j (i:Int) (l.drop i) = ((argsOf f (l.getD i 0)).all (useB u j (i:Int)) && bodyUse f u j ((i + 1:Nat):Int) (l.drop (i + 1))):=by
 rw [List.drop_eq_getElem_cons hi,bodyUse];simp [List.getD_eq_getElem?_getD,hi]
theorem usesB_step {f:S38} {u:Us} {l:List S46} {i:Nat} (hi:i < l.length):usesB f u (i:Int) (l.drop i) = (blkUse f u (i:Int) (l.getD i z46) && usesB f u ((i + 1:Nat):Int) (l.drop (i + 1))):=by
 rw [List.drop_eq_getElem_cons hi,usesB];simp [List.getD_eq_getElem?_getD,hi]
theorem enter49 (args:Array Value) (w:World):(callFunc 49 args).run Try.prog w = .ok (.enter 49 args) w:=run_enter Try.func49 (by kernel_rfl) (by kernel_rfl) args w
theorem args_in {d:Ck} (hG:Good d) {v:Int} (hv:inB d.f.f3.length v = true):(argsOf d.f v).all (inB d.f.f3.length) = true:=by
 obtain ⟨v0,v1⟩:=inB_iff hv
 have hm:rd_T42 d.f.f3 v ∈ d.f.f3:=mem_getD z42 (by omega)
 exact (hG.values _ hm).1
theorem phis_len {f:S38} (h:phisE f = 0) {b:S46} (hb:b ∈ f.f4) {v:Int} (hv:v ∈ b.f0):(argsOf f v).length = b.f3.length:=by
 unfold phisE at h
 split at h
 ·rename_i hh
  have h1:=List.all_eq_true.1 hh.2 b hb
  unfold phisBlk at h1
  rw [Bool.and_eq_true] at h1
  have h2:=List.all_eq_true.1 h1.1 v hv
  unfold phiB at h2
  simp only [Bool.and_eq_true,beq_iff_eq] at h2
  unfold argsOf
  omega
 ·cases h
theorem us_of {w0 w1 w2:World} {g gw ga gb:Nat} {d:Ck} {F L:List Int} (h:∃ gf gl,CkB w0 w2 g d (.slice (some ⟨gf,0,none⟩) d.f.f4.length d.f.f4.length) (.slice (some ⟨gl,0,none⟩) d.f.f4.length d.f.f4.length) (.slice (some ⟨gw,0,none⟩) d.f.f3.length d.f.f3.length) (.slice (some ⟨ga,0,none⟩) d.f.f3.length d.f.f3.length) ∧ RowI w2 gf F ∧ RowI w2 gl L ∧ F.length = d.f.f4.length ∧ L.length = d.f.f4.length)
 (hk:∀ j,j < w1.heap.size → j ≠ g → w2.heap[j]? = w1.heap[j]?) (hb:w1.heap[gb]? = some (.cells #[.pointer (some ⟨g,0,none⟩)] 56 (0,0)) ∧ gb < w1.heap.size ∧ gb ≠ g) (hr:RowI w1 gw (onceT d.f).1 ∧ RowI w1 ga (onceT d.f).2.1)
 (hl:(onceT d.f).1.length = d.f.f3.length ∧ (onceT d.f).2.1.length = d.f.f3.length ∧ gw ≠ g ∧ ga ≠ g) (hwh:∀ v,v < d.f.f3.length → (onceT d.f).1.getD v 0 < (d.f.f4.length:Int)) :
 ∃ gf gl,Hid (UsW w0 w2 g gf gl gw ga d ⟨F,L,(onceT d.f).1,(onceT d.f).2.1⟩) ∧ Hid (w2.heap[gb]? = some (.cells #[.pointer (some ⟨g,0,none⟩)] 56 (0,0))):=by
 obtain ⟨gf,gl,hc,h1,h2,h3,h4⟩:=h
 refine ⟨gf,gl,Lib.hid ⟨hc,h1,h2,?_,?_,h3,h4,hl.1,hl.2.1,hwh⟩,Lib.hid ((hk gb hb.2.1 hb.2.2).trans hb.1)⟩
 ·exact (hk gw hr.1.lt hl.2.2.1).trans hr.1
 ·exact (hk ga hr.2.lt hl.2.2.2).trans hr.2
theorem all_uses (w0:World) (g gb gi g4 gf gl gw ga:Nat) (d:Ck) (u:Us) (i k:Nat) (B:Option Addr) (c:Nat) (l:List Int) (w:World) (h:UsW w0 w g gf gl gw ga d u) (hb:i < d.f.f4.length) (hm3:d.f.f3.length ≤ 9223372036854775807) (hm4:d.f.f4.length ≤ 9223372036854775807)
 (h2:w.heap[gb]? = some (.cells #[.pointer (some ⟨g,0,none⟩)] 56 (0,0))) (h3:w.heap[gi]? = some (.cells #[.int .i64 (i:Int)] 3 (0,0))) (h4:w.heap[g4]? = some (.cells #[.int .i64 (k:Int)] 3 (0,0)))
 (hr:(Kd.int .i64).C w B l.length l) (hc:l.length ≤ c) (hin:l.all (inB d.f.f3.length) = true) :
 Calls Try.prog 42 #[.slice B l.length c,.func (.func 49) #[] #[.pointer (some ⟨gb,0,none⟩),.pointer (some ⟨gi,0,none⟩),.pointer (some ⟨g4,0,none⟩)]] w fun e w'=>∃ t,e = .returned (.bool t) ∧ Hid (l.all (useB u (i:Int) (k:Int)) = t) ∧ Below w.heap.size w w':=by
 refine (all_int 49 _ (useB u (i:Int) (k:Int)) B c l w hr hc enter49 (fun x hx W hb2=>?_)).mono (fun e w' h=>⟨_,h.1,Lib.hid rfl,h.2⟩)
 exact use_any w0 g gb gi g4 gf gl gw ga d u x i k W (h.then_ hb2) (List.all_eq_true.1 hin x hx) hb hm3 hm4 ((blk_cell (blkB hb2 h2) 0).trans rfl) ((blk_cell (blkB hb2 h3) 0).trans rfl) ((blk_cell (blkB hb2 h4) 0).trans rfl)
set_option maxRecDepth 100000 in
set_option maxHeartbeats 8000000 in
theorem uses_any (g:Nat) (d:Ck) (v3 v4:Value) (K:Nat) (T line F L:List Int) (w0 w:World) (h:Once w0 w g d v3 v4) (hG:Good d) (hP:phisE d.f = 0) (hn3:d.f.f3.length < 262144) (hb4:d.f.f4.length ≤ 2000000) (hg:goodB (waysL d.f) = true) (hK:K ≤ 10000000)
 (hl:lineOf (waysL d.f) K = some line) (ht:treeOf (waysL d.f) K = some T) (hin:line.all (inB (waysL d.f).length) = true) (hln:line.length ≤ 2000000) (hl0:0 < line.length) (h2:∀ i,i < (waysL d.f).length → ((waysL d.f).getD i []).length ≤ 2)
 (hT:∀ b,b < T.length → T.getD b 0 < (T.length:Int)) (hF:walkOf T K = some (F,L)) (hwh:∀ v,v < d.f.f3.length → (onceT d.f).1.getD v 0 < (d.f.f4.length:Int)) :
 Calls Try.prog 26 #[.pointer (some ⟨g,0,none⟩)] w fun e w'=>e = .returned (.int .i64 (usesE d.f ⟨F,L,(onceT d.f).1,(onceT d.f).2.1⟩)) ∧ Below w0.heap.size w0 w':=by
 obtain ⟨gw,ga,hcb,hrw,hra,hlw,hla,hne⟩:=h
 have hgl:=blk_lt hcb.bk
 have hbx:=below_alloc (Below.refl w.heap.size w) (.cells #[.pointer (some ⟨g,0,none⟩)] 56)
 have hCB1:CkB w0 (w.alloc (.cells #[.pointer (some ⟨g,0,none⟩)] 56)) g d v3 v4 _ _:=⟨hcb.at_,hcb.fs_,hcb.hc,below_then hcb.below hcb.below.size hbx,hcb.ge,blkB hbx hcb.bk⟩
 have HW:=Lib.hid (walk_any g d v3 v4 _ _ K T line F L w0 _ hCB1 hb4 hg hK hl ht hin hln hl0 h2 hT hF)
 have z0:(w.alloc (.cells #[.pointer (some ⟨g,0,none⟩)] 56)).cell? ⟨w.heap.size,0,none⟩ = some (.pointer (some ⟨g,0,none⟩)):=(blk_cell (blk_new w _) 0).trans rfl
 have HKB:Hid ((w.alloc (.cells #[.pointer (some ⟨g,0,none⟩)] 56)).heap[w.heap.size]? = some (.cells #[.pointer (some ⟨g,0,none⟩)] 56 (0,0)) ∧ w.heap.size < (w.alloc (.cells #[.pointer (some ⟨g,0,none⟩)] 56)).heap.size ∧ w.heap.size ≠ g):=Lib.hid ⟨blk_new w _,by simp,by omega⟩
 have HRW:Hid (RowI (w.alloc (.cells #[.pointer (some ⟨g,0,none⟩)] 56)) gw (onceT d.f).1 ∧ RowI (w.alloc (.cells #[.pointer (some ⟨g,0,none⟩)] 56)) ga (onceT d.f).2.1):=Lib.hid ⟨hrw.below hbx,hra.below hbx⟩
 have HLL:Hid ((onceT d.f).1.length = d.f.f3.length ∧ (onceT d.f).2.1.length = d.f.f3.length ∧ gw ≠ g ∧ ga ≠ g):=Lib.hid ⟨hlw,hla,Ne.symm hne.2.1,Ne.symm hne.2.2.1⟩
 have HG:=Lib.hid hG
 have HP:=Lib.hid hP
 have HWH:=Lib.hid hwh
 have HA:=Lib.hid hcb.at_
 clear hcb hrw hra hlw hla hne hgl hbx hCB1 hG hP hwh hg hK hl ht hin hln hl0 h2 hT hF
 obtain ⟨u,hu⟩:∃ u:Us,(⟨F,L,(onceT d.f).1,(onceT d.f).2.1⟩:Us) = u:=⟨_,rfl⟩
 rw [hu]
 have HUU:=Lib.hid hu
 have HR0:Hid (usesE d.f u = if usesB d.f u ((0:Nat):Int) (d.f.f4.drop 0) = true then 0 else 96):=Lib.hid rfl
 obtain ⟨RR,hRR⟩:∃ RR,usesE d.f u = RR:=⟨_,rfl⟩
 rw [hRR] at HR0 ⊢
 clear hRR hu
 obtain ⟨A4q,hA4q⟩:∃ A4q,A4q = d.A4:=⟨_,rfl⟩
 have HA4:=Lib.hid hA4q
 clear hA4q
 go_enter Try.func26,Try.ntmps26
 go_wp2_with (first | (go_at_call 47;with_reducible refine Calls.mono HW.out ?_;rintro e w2 ⟨rfl,HR2,HKP⟩;obtain ⟨gf,gl,HU,HBX⟩:=us_of HR2.out HKP.out HKB.out HRW.out HLL.out HWH.out;have z2:=(blk_cell HBX.out 0).trans (Eq.refl _);have y2:=HU.out.cb.ck.y2;have x4:=HU.out.cb.ck.at_.c4;rw [← HA4.out] at x4;clear HR2 HKP z0) | (go_at_call 47;refine stop_intro ?_))
 rw [HUU.out] at HU
 clear HUU HW HWH HRW HLL HKB
 have hm3:=HA.out.r3.2.1
 have hm4:=HA.out.r4.2.1
 obtain ⟨gb,hgb⟩:∃ gb,gb = w.heap.size:=⟨_,rfl⟩
 rw [← hgb] at HBX ⊢
 have HS0:Hid (Below w2.heap.size w2 w2):=Lib.hid (Below.refl _ _)
 clear hgb
 go_loopg [3,4,6,7,8,9,10,11,22] (d.f.f4.length) (fun k _ _ _ _ _ _ _ _ v wr=>∃ (i:Nat),i ≤ d.f.f4.length ∧ v = .int .i64 i ∧ Hid (i + k = d.f.f4.length) ∧ Hid (RR = if usesB d.f u (i:Int) (d.f.f4.drop i) = true then 0 else 96) ∧ Hid (Below w2.heap.size w2 wr))
 case atStart=>exact ⟨0,by omega,rfl,Lib.hid (by omega),HR0,HS0⟩
 case round=>
  clear HR0 HS0 z2 y2 x4
  obtain ⟨i,hi,rfl,HI,HR,HS⟩:=hrel
  have HBW:Hid (Below w0.heap.size w0 wr):=Lib.hid (below_then HU.out.cb.below HU.out.cb.below.size HS.out)
  by_cases hlt:i < d.f.f4.length
  ·obtain ⟨ad4,B0,d0,B1,d1,B4,d4,B5,d5,hA4,q0,q1,q2,q3,q4,q5,l0,r0,l1,r1,l4,r4,l5,r5⟩:=at_T46 HA.out.r4 (i:Int) (by omega) (by omega)
   rw [← HA4.out] at hA4
   subst hA4
   rw [Int.toNat_natCast] at q0 q1 q2 q3 q4 q5
   have q0:=cellB HBW.out q0
   have q1:=cellB HBW.out q1
   have q2:=cellB HBW.out q2
   have q3:=cellB HBW.out q3
   have q4:=cellB HBW.out q4
   have q5:=cellB HBW.out q5
   have R0:=Lib.hid r0
   have R1:=Lib.hid r1
   have R5:=Lib.hid r5
   have m0:=r0.2.1
   have m1:=r1.2.1
   clear r0 r1 r4 r5
   have hx0:rd_T46 d.f.f4 (i:Int) = d.f.f4.getD i z46:=by simp [rd_T46]
   have hmem:=mem_getD z46 hlt
   have HBL:=Lib.hid (block_phis (HG.out.blocks _ hmem))
   have HBT:=Lib.hid (block_term (HG.out.blocks _ hmem))
   have HPL:Hid (∀ v ∈ (d.f.f4.getD i z46).f0,(argsOf d.f v).length = (d.f.f4.getD i z46).f3.length):=Lib.hid (fun v hv=>phis_len HP.out hmem hv)
   have HST:Hid (blkUse d.f u (i:Int) (d.f.f4.getD i z46) = false → RR = 96):=Lib.hid (fun hh=>by rw [HR.out,usesB_step hlt,hh];rfl)
   have HNX:Hid (blkUse d.f u (i:Int) (d.f.f4.getD i z46) = true → RR = if usesB d.f u ((i + 1:Nat):Int) (d.f.f4.drop (i + 1)) = true then 0 else 96):=Lib.hid (fun hh=>by rw [HR.out,usesB_step hlt,hh];rfl)
   rw [← hx0] at HBL HBT HPL HST HNX
   clear hx0 hmem
   generalize rd_T46 d.f.f4 (i:Int) = b at *
   go_upto_region 5 with (fail)
   obtain ⟨wb,hwb⟩:∃ wb,wb = (wr.alloc (.cells #[.int .i64 (i:Int)] 3)).alloc (.cells #[.slice B0 b.f0.length d0,.slice B1 b.f1.length d1,.int .i64 b.f2.f0,.int .i64 b.f2.f1,.slice B4 b.f2.f2.length d4,.slice B5 b.f3.length d5] 46):=⟨_,rfl⟩
   have hbb:Below wr.heap.size wr wb:=by rw [hwb];exact below_alloc (below_alloc (Below.refl _ _) _) _
   have hk3:wb.heap[wr.heap.size]? = some (.cells #[.int .i64 (i:Int)] 3 (0,0)):=by rw [hwb];exact blkB (below_alloc (Below.refl _ _) _) (blk_new wr _)
   have hk4:wb.heap[wr.heap.size + 1]? = some (.cells #[.slice B0 b.f0.length d0,.slice B1 b.f1.length d1,.int .i64 b.f2.f0,.int .i64 b.f2.f1,.slice B4 b.f2.f2.length d4,.slice B5 b.f3.length d5] 46 (0,0)):=by
    rw [hwb]
    have:=blk_new (wr.alloc (.cells #[.int .i64 (i:Int)] 3)) (.cells #[.slice B0 b.f0.length d0,.slice B1 b.f1.length d1,.int .i64 b.f2.f0,.int .i64 b.f2.f1,.slice B4 b.f2.f2.length d4,.slice B5 b.f3.length d5] 46)
    rwa [size_alloc'] at this
   have HK3:=Lib.hid hk3
   have HK4:=Lib.hid hk4
   have HUB:=Lib.hid (HU.out.then_ (below_then HS.out HS.out.size hbb))
   have HXB:=Lib.hid (blkB (below_then HS.out HS.out.size hbb) HBX.out)
   have HBB:=Lib.hid (below_then HBW.out HBW.out.size hbb)
   have HSB:=Lib.hid (below_then HS.out HS.out.size hbb)
   have y40:wb.cell? ⟨wr.heap.size + 1,0,none⟩ = some (.slice B0 b.f0.length d0):=(blk_cell hk4 0).trans rfl
   have HP0:Hid (phiUse d.f u b.f3 b.f0 = phiUse d.f u b.f3 (b.f0.drop 0)):=Lib.hid rfl
   have HBR:Hid (Below wb.heap.size wb wb):=Lib.hid (Below.refl _ _)
   rw [← hwb]
   clear hwb hbb hk3 hk4 q0 q1 q2 q3 q4 q5 HS HBW HR
   obtain ⟨gi,hgi⟩:∃ gi,gi = wr.heap.size:=⟨_,rfl⟩
   rw [← hgi] at HK3 HK4 y40 ⊢
   clear hgi
   generalize gk = gk1 at *
   go_wp2
   clear y40
   go_loopg [6,7,8,30] (b.f0.length) (fun k _ _ _ v wr=>∃ (j:Nat),j ≤ b.f0.length ∧ v = .int .i64 j ∧ Hid (j + k = b.f0.length) ∧ Hid (phiUse d.f u b.f3 b.f0 = phiUse d.f u b.f3 (b.f0.drop j)) ∧ Hid (Below wb.heap.size wb wr))
   case atStart=>exact ⟨0,by omega,rfl,Lib.hid (by omega),HP0,HBR⟩
   case round=>
    clear HP0 HBR
    obtain ⟨j,hj,rfl,HJ,HP2,HS2⟩:=hrel
    have HBW2:Hid (Below w0.heap.size w0 wr):=Lib.hid (below_then HBB.out HBB.out.size HS2.out)
    have hxb:=blkB HS2.out HXB.out
    have z2:wr.cell? ⟨gb,0,none⟩ = some (.pointer (some ⟨g,0,none⟩)):=(blk_cell hxb 0).trans rfl
    have HU2:=Lib.hid (HUB.out.then_ HS2.out)
    have y2:=HU2.out.cb.ck.y2
    have x3:=HU2.out.cb.ck.at_.c3
    by_cases hlt2:j < b.f0.length
    ·obtain ⟨ad,hA,hcell⟩:=int_at (Kd.C_below R0.out HBW2.out) hlt2
     obtain rfl:=hA
     have hin:=List.all_eq_true.1 HBL.out.1 _ (mem_getD 0 hlt2)
     have hpl:=HPL.out _ (mem_getD 0 hlt2)
     have HP3:=Lib.hid (HP2.out.trans (phiUse_step hlt2))
     generalize b.f0.getD j 0 = x at *
     obtain ⟨x0,x1⟩:=inB_iff hin
     obtain ⟨ad3,B3,d3,hA3,_,_,_,t3,la,ra⟩:=val_at HA.out.r3 hin
     rw [hA3] at x3
     have t3:=cellB HBW2.out t3
     have HRA:=Lib.hid ra
     have mra:=ra.2.1
     have HAI:=Lib.hid (args_in HG.out hin)
     have hae:(rd_T42 d.f.f3 x).f3 = argsOf d.f x:=rfl
     rw [hae] at t3 la HRA mra
     clear ra hae hin
     generalize argsOf d.f x = ag at *
     obtain ⟨PB,hPB⟩:∃ PB,pairsB u ag b.f3 = PB:=⟨_,rfl⟩
     rw [hPB] at HP3
     have HP4:Hid (PB = pairsB u (ag.drop 0) (b.f3.drop 0)):=Lib.hid (by rw [← hPB];rfl)
     have HLE:=Lib.hid hpl
     have HBR2:Hid (Below wb.heap.size wb wr):=HS2
     clear hPB hpl HS2
     generalize gk = gk2 at *
     go_wp2
     clear z2 y2 x3 t3 hxb hcell
     go_loopg [7,8,46] (ag.length) (fun k _ _ v wr=>∃ (q:Nat),q ≤ ag.length ∧ v = .int .i64 q ∧ Hid (q + k = ag.length) ∧ Hid (PB = pairsB u (ag.drop q) (b.f3.drop q)) ∧ Hid (Below wb.heap.size wb wr))
     case atStart=>exact ⟨0,by omega,rfl,Lib.hid (by omega),HP4,HBR2⟩
     case round=>
      clear HP4 HBR2 HU2 HBW2
      obtain ⟨q,hq,rfl,HQ,HPQ,HS3⟩:=hrel
      by_cases hlt3:q < ag.length
      ·have HBW3:Hid (Below w0.heap.size w0 wr):=Lib.hid (below_then HBB.out HBB.out.size HS3.out)
       have hlq:q < b.f3.length:=by have:=HLE.out;omega
       obtain ⟨ad5,hA5,c5⟩:=int_at (Kd.C_below HRA.out HBW3.out) hlt3
       obtain ⟨ad6,hA6,c6⟩:=int_at (Kd.C_below R5.out HBW3.out) hlq
       obtain rfl:=hA5
       obtain rfl:=hA6
       have HVI:=Lib.hid (List.all_eq_true.1 HAI.out _ (mem_getD 0 hlt3))
       have HPI:=Lib.hid (List.all_eq_true.1 HBL.out.2.2.1 _ (mem_getD 0 hlq))
       have HPS:=Lib.hid (HPQ.out.trans (pairs_step hlt3 hlq))
       have z2:wr.cell? ⟨gb,0,none⟩ = some (.pointer (some ⟨g,0,none⟩)):=(blk_cell (blkB HS3.out HXB.out) 0).trans rfl
       have y43:wr.cell? ⟨gi + 1,5,none⟩ = some (.slice (some ad6) b.f3.length d5):=(blk_cell (blkB HS3.out HK4.out) 5).trans rfl
       have HU3:=Lib.hid (HUB.out.then_ HS3.out)
       generalize ag.getD q 0 = a at *
       generalize b.f3.getD q 0 = pr at *
       obtain ⟨sb,hsb⟩:∃ sb,seenB u a pr = sb:=⟨_,rfl⟩
       rw [hsb] at HPS
       have HCQ:Hid (∀ n,Calls Try.prog 48 #[.pointer (some ⟨g,0,none⟩),.int .i64 a,.int .i64 pr] (wr.drewN n) fun e w'=>e = .returned (.bool sb) ∧ ∃ q,w' = (wr.drewN n).drewN q):=Lib.hid (fun n=>by
        have:=atEnd_any w0 g gf gl gw ga d u a pr (wr.drewN n) (HU3.out.then_ (pw_below_drewN (Below.refl _ _) _)) HVI.out HPI.out hm3 hm4
        rwa [hsb] at this)
       clear hsb
       go_wp2
       go_quiet ((go_at_call 48;exact Calls.quiet_of (HCQ.out _)))
       cases sb with
       | false=>
         have HY:Hid (RR = 96):=Lib.hid (HST.out (by unfold blkUse;rw [HP3.out,HPS.out];rfl))
         go_wp2
         go_ret
         exact ⟨ret_i HY.out.symm,pw_below_drewN HBW3.out _⟩
       | true=>
         go_wp2
         go_roundg (gk - 1)
         case measure=>have:=HQ.out;omega
         case rel=>exact ⟨q + 1,by omega,by go_num,Lib.hid (by have:=HQ.out;omega),Lib.hid (by have:=HPS.out;rwa [Bool.true_and] at this),Lib.hid (pw_below_drewN HS3.out _)⟩
      ·have HPT:Hid (PB = true):=Lib.hid (by rw [HPQ.out,List.drop_eq_nil_of_le (by omega),pairsB])
       have HP5:Hid (phiUse d.f u b.f3 b.f0 = phiUse d.f u b.f3 (b.f0.drop (j + 1))):=Lib.hid (by rw [HP3.out,HPT.out,Bool.true_and])
       go_wp2
       go_roundg (gk2 - 1)
       case measure=>have:=HJ.out;omega
       case rel=>exact ⟨j + 1,by omega,by go_num,Lib.hid (by have:=HJ.out;omega),HP5,HS3⟩
    ·have HPT:Hid (phiUse d.f u b.f3 b.f0 = true):=Lib.hid (by rw [HP2.out,List.drop_eq_nil_of_le (by omega),phiUse])
     have y41:wr.cell? ⟨gi + 1,1,none⟩ = some (.slice B1 b.f1.length d1):=(blk_cell (blkB HS2.out HK4.out) 1).trans rfl
     have HBD0:Hid (bodyUse d.f u (i:Int) 0 b.f1 = bodyUse d.f u (i:Int) ((0:Nat):Int) (b.f1.drop 0)):=Lib.hid rfl
     have HS20:=HS2
     clear z2 y2 x3 hxb HU2 HBW2 HP2 HJ HS2
     go_wp2
     clear y41 hj hlt2
     go_loopg [9,10,11,65] (b.f1.length) (fun k _ _ _ v wr=>∃ (j:Nat),j ≤ b.f1.length ∧ v = .int .i64 j ∧ Hid (j + k = b.f1.length) ∧ Hid (bodyUse d.f u (i:Int) 0 b.f1 = bodyUse d.f u (i:Int) (j:Int) (b.f1.drop j)) ∧ Hid (Below wb.heap.size wb wr))
     case atStart=>exact ⟨0,by omega,rfl,Lib.hid (by omega),HBD0,HS20⟩
     case round=>
      clear HBD0 HS20
      obtain ⟨j,hj,rfl,HJ,HP2,HS2⟩:=hrel
      have HBW2:Hid (Below w0.heap.size w0 wr):=Lib.hid (below_then HBB.out HBB.out.size HS2.out)
      by_cases hlt2:j < b.f1.length
      ·obtain ⟨ad,hA,hcell⟩:=int_at (Kd.C_below R1.out HBW2.out) hlt2
       obtain rfl:=hA
       have hin:=List.all_eq_true.1 HBL.out.2.1 _ (mem_getD 0 hlt2)
       have HP3:=Lib.hid (HP2.out.trans (bodyUse_step hlt2))
       generalize b.f1.getD j 0 = x at *
       obtain ⟨x0,x1⟩:=inB_iff hin
       obtain ⟨wc,hwc⟩:∃ wc,wc = wr.alloc (.cells #[.int .i64 (j:Int)] 3):=⟨_,rfl⟩
       have hbc:Below wr.heap.size wr wc:=by rw [hwc];exact below_alloc (Below.refl _ _) _
       have HSC:=Lib.hid (below_then HS2.out HS2.out.size hbc)
       have HBWC:=Lib.hid (below_then HBW2.out HBW2.out.size hbc)
       have HKJ:Hid (wc.heap[wr.heap.size]? = some (.cells #[.int .i64 (j:Int)] 3 (0,0))):=Lib.hid (by rw [hwc];exact blk_new wr _)
       have HUC:=Lib.hid (HUB.out.then_ HSC.out)
       have HXC:=Lib.hid (blkB HSC.out HXB.out)
       have HK3C:=Lib.hid (blkB HSC.out HK3.out)
       have z2:wc.cell? ⟨gb,0,none⟩ = some (.pointer (some ⟨g,0,none⟩)):=(blk_cell HXC.out 0).trans rfl
       have y2:=HUC.out.cb.ck.y2
       have x3:=HUC.out.cb.ck.at_.c3
       obtain ⟨ad3,B3,d3,hA3,_,_,_,t3,la,ra⟩:=val_at HA.out.r3 hin
       rw [hA3] at x3
       have t3:=cellB HBWC.out t3
       have HRA:=Lib.hid (Kd.C_below ra HBWC.out)
       have HAI:=Lib.hid (args_in HG.out hin)
       have hae:(rd_T42 d.f.f3 x).f3 = argsOf d.f x:=rfl
       rw [hae] at t3 la HRA
       clear ra hae hin hbc
       generalize argsOf d.f x = ag at *
       rw [hwc] at z2 y2 x3 t3
       have HCQ:=Lib.hid (all_uses w0 g gb gi wr.heap.size gf gl gw ga d u i j B3 d3 ag wc HUC.out hlt hm3 hm4 HXC.out HK3C.out HKJ.out HRA.out la HAI.out)
       rw [hwc] at HCQ
       have HBE:Hid (wr.alloc (.cells #[.int .i64 (j:Int)] 3) = wc):=Lib.hid hwc.symm
       clear hwc
       go_wp2_with (first | (go_at_call 42;with_reducible refine Calls.mono HCQ.out ?_;rintro e w5 ⟨t,rfl,HT5,hb5⟩;rw [HBE.out] at hb5;have HB5:=Lib.hid (below_then HSC.out HSC.out.size hb5);clear hb5) | (go_at_call 42;refine stop_intro ?_))
       ·have ht:t = false:=by simpa using ‹(!t) = true›
        have HY:Hid (RR = 96):=Lib.hid (HST.out (by unfold blkUse;rw [HP3.out,HT5.out,ht];simp))
        go_ret
        exact ⟨ret_i HY.out.symm,below_then HBB.out HBB.out.size HB5.out⟩
       ·have ht:t = true:=by simpa using ‹(!t) = false›
        have HP4:Hid (bodyUse d.f u (i:Int) 0 b.f1 = bodyUse d.f u (i:Int) ((j + 1:Nat):Int) (b.f1.drop (j + 1))):=Lib.hid (by rw [HP3.out,HT5.out,ht,Bool.true_and])
        go_roundg (gk - 1)
        case measure=>have:=HJ.out;omega
        case rel=>exact ⟨j + 1,by omega,by go_num,Lib.hid (by have:=HJ.out;omega),HP4,HB5⟩
      ·have HBT2:Hid (bodyUse d.f u (i:Int) 0 b.f1 = true):=Lib.hid (by rw [HP2.out,List.drop_eq_nil_of_le (by omega),bodyUse])
       have y43:wr.cell? ⟨gi + 1,3,none⟩ = some (.int .i64 b.f2.f1):=(blk_cell (blkB HS2.out HK4.out) 3).trans rfl
       have z2:wr.cell? ⟨gb,0,none⟩ = some (.pointer (some ⟨g,0,none⟩)):=(blk_cell (blkB HS2.out HXB.out) 0).trans rfl
       have z3:wr.cell? ⟨gi,0,none⟩ = some (.int .i64 (i:Int)):=(blk_cell (blkB HS2.out HK3.out) 0).trans rfl
       have HU3:=Lib.hid (HUB.out.then_ HS2.out)
       have HBU:Hid (blkUse d.f u (i:Int) b = termUse u (i:Int) b):=Lib.hid (by unfold blkUse;rw [HPT.out,HBT2.out];simp)
       have HSE:=Lib.hid (below_then HSB.out HSB.out.size HS2.out)
       have HTU:Hid (termUse u (i:Int) b = (decide (b.f2.f1 < 0) || seenB u b.f2.f1 (i:Int))):=Lib.hid rfl
       have HTI:=Lib.hid (term_in HBT.out)
       generalize b.f2.f1 = v at *
       by_cases h0:0 ≤ v
       ·have HVI:=Lib.hid (HTI.out h0)
        have HII:Hid (inB d.f.f4.length (i:Int) = true):=Lib.hid (by simp [inB];omega)
        have hd1:decide (v < 0) = false:=by simp;omega
        have hd2:decide (0 ≤ v) = true:=by simpa using h0
        have hd3:decide (v ≥ 0) = true:=by simpa using h0
        rw [hd1,Bool.false_or] at HTU
        obtain ⟨sb,hsb⟩:∃ sb,seenB u v (i:Int) = sb:=⟨_,rfl⟩
        have HCQ:Hid (Calls Try.prog 48 #[.pointer (some ⟨g,0,none⟩),.int .i64 v,.int .i64 (i:Int)] wr fun e w'=>e = .returned (.bool sb) ∧ ∃ q,w' = wr.drewN q):=Lib.hid (by
         have:=atEnd_any w0 g gf gl gw ga d u v (i:Int) wr HU3.out HVI.out HII.out hm3 hm4
         rwa [hsb] at this)
        rw [hsb] at HTU
        clear hsb hd1
        cases sb with
        | false=>
          have HY:Hid (RR = 96):=Lib.hid (HST.out (by rw [HBU.out,HTU.out]))
          go_wp2_with (first | (go_at_call 48;with_reducible refine Calls.mono HCQ.out ?_;rintro e w5 ⟨rfl,nq,rfl⟩) | (go_at_call 48;refine stop_intro ?_))
          go_ret
          exact ⟨ret_i HY.out.symm,pw_below_drewN HBW2.out _⟩
        | true=>
          have HY:=Lib.hid (HNX.out (by rw [HBU.out,HTU.out]))
          go_wp2_with (first | (go_at_call 48;with_reducible refine Calls.mono HCQ.out ?_;rintro e w5 ⟨rfl,nq,rfl⟩) | (go_at_call 48;refine stop_intro ?_))
          go_roundg (gk1 - 1)
          case measure=>have:=HI.out;omega
          case rel=>exact ⟨i + 1,by omega,by go_num,Lib.hid (by have:=HI.out;omega),HY,Lib.hid (pw_below_drewN HSE.out _)⟩
       ·have hd1:decide (v < 0) = true:=by simp;omega
        have hd2:decide (0 ≤ v) = false:=by simpa using h0
        have hd3:decide (v ≥ 0) = false:=by simpa using h0
        rw [hd1,Bool.true_or] at HTU
        have HY:=Lib.hid (HNX.out (by rw [HBU.out,HTU.out]))
        clear hd1
        go_wp2
        go_roundg (gk1 - 1)
        case measure=>have:=HI.out;omega
        case rel=>exact ⟨i + 1,by omega,by go_num,Lib.hid (by have:=HI.out;omega),HY,Lib.hid (by first | exact HSE.out | exact pw_below_drewN HSE.out _)⟩
  ·have y:RR = 0:=by rw [HR.out,List.drop_eq_nil_of_le (by omega),usesB];rfl
   have HY:=Lib.hid y
   clear y
   go_wp2
   go_ret
   exact ⟨ret_i HY.out.symm,HBW.out⟩
end Go.Proofs.Ytgbeliajhccndaa
end
section
set_option linter.unusedVariables false
set_option linter.unusedSimpArgs false
namespace Go.Proofs.Ytgbeliajhccndaa
open Go.RowKit Go.Proofs.YtgbeliajhccndaaW.PrintWords Go.Proofs.YtgbeliajhccndaaW.PrintLast Go.Proofs.YtgbeliajhccndaaW.PrintMore PP
def KK:Nat:=1000000
def lineK (f:S38):List Int:=(lineOf (waysL f) KK).getD []
def treeK (f:S38):List Int:=(treeOf (waysL f) KK).getD []
def walkK (f:S38):List Int × List Int:=(walkOf (treeK f) KK).getD ([],[])
def usK (f:S38):Us:=⟨(walkK f).1,(walkK f).2,(onceT f).1,(onceT f).2.1⟩
structure Plain (f:S38):Prop where
 l1:lineOf (waysL f) KK = some (lineK f)
 l2:(lineK f).all (inB (waysL f).length) = true
 l3:(lineK f).length ≤ 2000000
 l4:0 < (lineK f).length
 t:(reachL (waysL f).length (lineK f)).all id = true → treeOf (waysL f) KK = some (treeK f) ∧ (∀ b,b < (treeK f).length → (treeK f).getD b 0 < ((treeK f).length:Int)) ∧ walkOf (treeK f) KK = some (walkK f)
def funcE (d:Ck):Int:=
 if predsE d.f ≠ 0 then predsE d.f else if reachE d (lineK d.f) ≠ 0 then reachE d (lineK d.f) else if phisE d.f ≠ 0 then phisE d.f else if onceE d.f ≠ 0 then onceE d.f else if typesE d ≠ 0 then typesE d else usesE d.f (usK d.f)
def dOf (fs:List S38) (mn:Int) (f:S38):Ck:=⟨fs,mn,none,0,⟨0,0,none⟩,f,none,0,none,0,none,0⟩
def firstE (fs:List S38) (mn:Int):List S38 → Int
 | []=>0
 | f :: r=>if funcE (dOf fs mn f) ≠ 0 then funcE (dOf fs mn f) else firstE fs mn r
def checkE (fs:List S38) (mn:Int):Int:=if formedB fs mn = true then firstE fs mn fs else 90
theorem firstE_step {fs:List S38} {mn:Int} {l:List S38} {i:Nat} (hi:i < l.length):firstE fs mn (l.drop i) = if funcE (dOf fs mn (l.getD i z38)) ≠ 0 then funcE (dOf fs mn (l.getD i z38)) else firstE fs mn (l.drop (i + 1)):=by
 rw [List.drop_eq_getElem_cons hi,firstE];simp [List.getD_eq_getElem?_getD,hi]
theorem formedB_fun {fs:List S38} {mn:Int} (h:formedB fs mn = true) {i:Nat} (hi:i < fs.length):funcB fs (rd_T38 fs (i:Int)) = true:=by
 unfold formedB at h
 rw [Bool.and_eq_true] at h
 have:=List.all_eq_true.1 h.1 i (by simpa using hi)
 unfold rowB at this
 simp only [Bool.and_eq_true] at this
 exact this.2.2
theorem good_of {fs:List S38} {mn:Int} (h:formedB fs mn = true) {i:Nat} (hi:i < fs.length) (A:Option Addr) (c:Nat) (p:Addr) (A1:Option Addr) (c1:Nat) (A3:Option Addr) (c3:Nat) (A4:Option Addr) (c4:Nat) :
 Good ⟨fs,mn,A,c,p,rd_T38 fs (i:Int),A1,c1,A3,c3,A4,c4⟩:=by
 have hf:=formedB_fun h hi
 have hall:∀ j:Int,inB fs.length j = true → (rd_T38 fs j).f1.all (inB (rd_T38 fs j).f3.length) = true:=by
  intro j hj
  obtain ⟨j0,j1⟩:=inB_iff hj
  have:=formedB_fun h (i:=j.toNat) (by omega)
  rw [Int.toNat_of_nonneg j0] at this
  unfold funcB headB at this
  simp only [Bool.and_eq_true] at this
  exact this.1.1.1.2
 unfold funcB headB at hf
 simp only [Bool.and_eq_true,decide_eq_true_eq] at hf
 refine ⟨fun v hv=>?_,fun b hb=>List.all_eq_true.1 hf.2 b hb,hf.1.1.1.2,?_,hall⟩
 ·have:=List.all_eq_true.1 hf.1.1.2 v hv
  unfold qB at this
  rw [Bool.and_eq_true] at this
  exact this
 ·have:=hf.1.1.1.1.1.2
  show 0 < (rd_T38 fs (i:Int)).f4.length
  omega
theorem formed_vals {fs:List S38} {mn:Int} (h:formedB fs mn = true) {i:Nat} (hi:i < fs.length):(rd_T38 fs (i:Int)).f3.length < 262144:=by
 have hf:=formedB_fun h hi
 unfold funcB headB at hf
 simp only [Bool.and_eq_true,decide_eq_true_eq] at hf
 exact hf.1.1.1.1.1.1.2
theorem ways_good {d:Ck} (hG:Good d):goodB (waysL d.f) = true:=by
 unfold goodB
 have hl:(waysL d.f).length = d.f.f4.length:=by simp [waysL]
 rw [Bool.and_eq_true,hl]
 refine ⟨List.all_eq_true.2 (fun l hl=>?_),by simpa using hG.some_⟩
 unfold waysL at hl
 obtain ⟨b,hb,rfl⟩:=List.mem_map.1 hl
 exact (block_phis (hG.blocks b hb)).2.2.2
theorem ways_two {d:Ck} (hG:Good d) (i:Nat) (hi:i < (waysL d.f).length):((waysL d.f).getD i []).length ≤ 2:=by
 have hm:=mem_getD ([]:List Int) hi
 unfold waysL at hm ⊢
 obtain ⟨b,hb,e⟩:=List.mem_map.1 hm
 rw [← e]
 exact term_len (block_term (hG.blocks b hb))
theorem put_wh {n m:Nat} {s:Tri} {v b k:Int} (h:∀ i,i < n → s.1.getD i 0 < (m:Int)) (hb:b < (m:Int)):∀ i,i < n → (put3 s v b k).1.getD i 0 < (m:Int):=by
 intro i hi
 show (s.1.set v.toNat b).getD i 0 < _
 rw [List.getD_eq_getElem?_getD,List.getElem?_set]
 split
 ·split
  ·exact hb
  ·have:=h i hi
   rename_i e1 e2
   rw [List.getD_eq_getElem?_getD,List.getElem?_eq_none (by omega)] at this
   simpa using this
 ·rw [← List.getD_eq_getElem?_getD];exact h i hi
theorem putL_wh {n m:Nat} {b:Int} (hb:b < (m:Int)) (l:List Int):∀ {s:Tri},(∀ i,i < n → s.1.getD i 0 < (m:Int)) → ∀ i,i < n → (putL b s l).1.getD i 0 < (m:Int):=by
 induction l with
 | nil=>intro s h;exact h
 | cons v r ih=>intro s h;exact ih (put_wh h hb)
theorem putK_wh {n m:Nat} {b:Int} (hb:b < (m:Int)) (l:List Int):∀ {s:Tri} {k:Int},(∀ i,i < n → s.1.getD i 0 < (m:Int)) → ∀ i,i < n → (putK b s k l).1.getD i 0 < (m:Int):=by
 induction l with
 | nil=>intro s k h;exact h
 | cons v r ih=>intro s k h;exact ih (put_wh h hb)
theorem putBs_wh {n m:Nat} (l:List S46):∀ {s:Tri} {j:Int},j + l.length ≤ (m:Int) → (∀ i,i < n → s.1.getD i 0 < (m:Int)) → ∀ i,i < n → (putBs s j l).1.getD i 0 < (m:Int):=by
 induction l with
 | nil=>intro s j _ h;exact h
 | cons b r ih=>
   intro s j hj h
   rw [List.length_cons] at hj
   exact ih (by omega) (putK_wh (by omega) _ (putL_wh (by omega) _ h))
theorem once_wh {f:S38} (hs:0 < f.f4.length):∀ v,v < f.f3.length → (onceT f).1.getD v 0 < (f.f4.length:Int):=by
 unfold onceT
 refine putBs_wh f.f4 (by omega) (putL_wh (by omega) _ ?_)
 intro i hi
 simp [zeros,List.getD_eq_getElem?_getD,hi]
 exact hs
end Go.Proofs.Ytgbeliajhccndaa
end
