/- Lemmas of this claim (SQ,SW). -/
import Derived.Test.YtgbeliajhccndaaKM
import Derived.Test.YtgbeliajhccndaaKP
section
set_option linter.unusedVariables false
set_option linter.unusedSimpArgs false
namespace Go.Proofs.Ytgbeliajhccndaa
open Go.RowKit Go.Proofs.YtgbeliajhccndaaW.PrintWords Go.Proofs.YtgbeliajhccndaaW.PrintLast Go.Proofs.YtgbeliajhccndaaW.PrintMore PP
theorem enter45 (args:Array Value) (w:World):(callFunc 45 args).run Try.prog w = .ok (.enter 45 args) w:=run_enter Try.func45 (by kernel_rfl) (by kernel_rfl) args w
theorem frozenO {w:World} {g:Nat} {t:TypeId} {cs:Array Value} (h:w.heap[g]? = some (.cells cs t (0,0))) (O:Obj) (i:Nat):(w.alloc O).frozen? ⟨g,i,none⟩ = false:=
 blk_frozen (blkB (below_alloc (Below.refl _ _) O) h) i
theorem cellSO {w:World} {a p:Addr} {v:Value} (h:w.cell? a = some v) (hne:p ≠ a) (u:Value) (O:Obj):((w.setCell p u).alloc O).cell? a = some v:=cellO (by rw [World.cell?_setCell_other (h:=hne)];exact h) O
structure CkB (w0 w:World) (g:Nat) (d:Ck) (v3 v4 v5 v6:Value):Prop where
 at_:FnAt w0 d.p d.f d.A1 d.c1 d.A3 d.c3 d.A4 d.c4
 fs_:k38.C w0 d.A d.fs.length d.fs
 hc:d.fs.length ≤ d.c
 below:Below w0.heap.size w0 w
 ge:w0.heap.size ≤ g
 bk:w.heap[g]? = some (.cells #[.slice d.A d.fs.length d.c,.int .i64 d.mn,.pointer (some d.p),v3,v4,v5,v6] 58 (0,0))
theorem CkB.ck {w0 w:World} {g:Nat} {d:Ck} {v3 v4 v5 v6:Value} (h:CkB w0 w g d v3 v4 v5 v6):CkW w g d v3 v4 v5 v6:=⟨h.at_.below h.below,Kd.C_below h.fs_ h.below,h.hc,h.bk⟩
theorem FnAt.plt {w:World} {p:Addr} {f:S38} {A1 A3 A4:Option Addr} {c1 c3 c4:Nat} (h:FnAt w p f A1 c1 A3 c3 A4 c4):p.block < w.heap.size:=World.block_lt_of_cell? w ⟨p.block,p.off + 3,none⟩ h.c3
structure Mk (w0 w1 x:World) (g g2:Nat) (d:Ck) (v3 v4 v5 v6:Value) (n:Nat) (rs:List Nat):Prop where
 below:Below w0.heap.size w0 x
 bk:x.heap[g]? = some (.cells #[.slice d.A d.fs.length d.c,.int .i64 d.mn,.pointer (some d.p),v3,v4,v5,v6] 58 (0,0))
 b2:x.heap[g2]? = some (.cells #[.pointer (some ⟨g,0,none⟩)] 56 (0,0))
 keep:∀ j,j < w1.heap.size → j ≠ g → x.heap[j]? = w1.heap[j]?
 rows:∀ a ∈ rs,RowI x a (List.replicate n 0) ∧ w1.heap.size ≤ a
 size:w1.heap.size ≤ x.heap.size
section
variable {w0 w1 x:World} {g g2:Nat} {d:Ck} {v3 v4 v5 v6:Value} {n:Nat} {rs:List Nat}
theorem made_zeros (n:Nat):(madeCells #[.int .i64 0] n) = (nums .i64 (List.replicate n 0)).toArray:=by
 apply Array.ext'
 show _ = (nums .i64 (List.replicate n 0))
 apply List.ext_getElem
 ·simp [nums,madeCells]
 ·intro i h1 h2
  simp [nums,madeCells,Nat.mod_one]
theorem Mk.drew (h:Mk w0 w1 x g g2 d v3 v4 v5 v6 n rs):Mk w0 w1 x.drew g g2 d v3 v4 v5 v6 n rs:=⟨below_drew h.below,h.bk,h.b2,h.keep,h.rows,h.size⟩
theorem Mk.alloc (h:Mk w0 w1 x g g2 d v3 v4 v5 v6 n rs) (a:Nat) (ha:x.heap.size = a):Mk w0 w1 (x.alloc (.cells (madeCells #[.int .i64 0] n) 3)) g g2 d v3 v4 v5 v6 n (a :: rs):=by
 have hb:=below_alloc (Below.refl x.heap.size x) (.cells (madeCells #[.int .i64 0] n) 3)
 subst ha
 refine ⟨below_alloc h.below _,blkB hb h.bk,blkB hb h.b2,fun j hj hg=>(hb.block j (Nat.lt_of_lt_of_le hj h.size)).trans (h.keep j hj hg),?_,?_⟩
 ·intro a hm
  rcases List.mem_cons.1 hm with rfl | hm
  ·exact ⟨by unfold RowI;rw [← made_zeros];exact blk_new x _,h.size⟩
  ·exact ⟨(h.rows a hm).1.below hb,(h.rows a hm).2⟩
 ·have:=h.size
  have:=hb.size
  omega
theorem Mk.s5 (h:Mk w0 w1 x g g2 d v3 v4 v5 v6 n rs) (hg:w0.heap.size ≤ g) (h1:g < w1.heap.size) (h2:g2 ≠ g) (u:Value):Mk w0 w1 (x.setCell ⟨g,5,none⟩ u) g g2 d v3 v4 u v6 n rs:=
 ⟨below_set h.below hg,(blk_set h.bk 5 u).trans rfl,blk_far h.b2 h2 u,fun j hj hg=>(Below.heap_setCell _ _ _ _ hg).trans (h.keep j hj hg),fun a ha=>⟨(h.rows a ha).1.far (by have:=(h.rows a ha).2;show a ≠ g;omega) u,(h.rows a ha).2⟩,by have:=h.size;simpa [World.setCell] using this⟩
theorem Mk.s6 (h:Mk w0 w1 x g g2 d v3 v4 v5 v6 n rs) (hg:w0.heap.size ≤ g) (h1:g < w1.heap.size) (h2:g2 ≠ g) (u:Value):Mk w0 w1 (x.setCell ⟨g,6,none⟩ u) g g2 d v3 v4 v5 u n rs:=
 ⟨below_set h.below hg,(blk_set h.bk 6 u).trans rfl,blk_far h.b2 h2 u,fun j hj hg=>(Below.heap_setCell _ _ _ _ hg).trans (h.keep j hj hg),fun a ha=>⟨(h.rows a ha).1.far (by have:=(h.rows a ha).2;show a ≠ g;omega) u,(h.rows a ha).2⟩,by have:=h.size;simpa [World.setCell] using this⟩
end
def Made (w0 w1 x:World) (g g2:Nat) (d:Ck) (v3 v4:Value) (n:Nat):Prop:=
 ∃ gw ga rs,Mk w0 w1 x g g2 d v3 v4 (.slice (some ⟨gw,0,none⟩) n n) (.slice (some ⟨ga,0,none⟩) n n) n rs ∧ gw ∈ rs ∧ ga ∈ rs ∧ gw ≠ ga
theorem Made.of {w0 w1 x:World} {g g2:Nat} {d:Ck} {v3 v4:Value} {n gw ga:Nat} {rs:List Nat} (h:Mk w0 w1 x g g2 d v3 v4 (.slice (some ⟨gw,0,none⟩) n n) (.slice (some ⟨ga,0,none⟩) n n) n rs) (h1:gw ∈ rs) (h2:ga ∈ rs) (h3:gw ≠ ga):Made w0 w1 x g g2 d v3 v4 n:=⟨gw,ga,rs,h,h1,h2,h3⟩
def putL (b:Int):Tri → List Int → Tri
 | s,[]=>s
 | s,v :: r=>putL b (put3 s v b (-1)) r
def putK (b:Int):Tri → Int → List Int → Tri
 | s,_,[]=>s
 | s,k,v :: r=>putK b (put3 s v b k) (k + 1) r
def putBs:Tri → Int → List S46 → Tri
 | s,_,[]=>s
 | s,i,b :: r=>putBs (putK i (putL i s b.f0) 0 b.f1) (i + 1) r
def zeros (n:Nat):Tri:=(List.replicate n 0,List.replicate n 0,List.replicate n 0)
def onceT (f:S38):Tri:=putBs (putL (-1) (zeros f.f3.length) f.f1) 0 f.f4
def onceE (f:S38):Int:=if (onceT f).2.2.all (fun x=>x == 1) = true then 0 else 94
theorem putL_step {b:Int} {s T:Tri} {l:List Int} {i:Nat} (hi:i < l.length) (h:T = putL b s (l.drop i)):T = putL b (put3 s (l.getD i 0) b (-1)) (l.drop (i + 1)):=by
 rw [h,List.drop_eq_getElem_cons hi,putL];simp [List.getD_eq_getElem?_getD,hi]
theorem putK_step {b:Int} {s T:Tri} {l:List Int} {i:Nat} (hi:i < l.length) (h:T = putK b s (i:Int) (l.drop i)):T = putK b (put3 s (l.getD i 0) b (i:Int)) ((i + 1:Nat):Int) (l.drop (i + 1)):=by
 rw [h,List.drop_eq_getElem_cons hi,putK];simp [List.getD_eq_getElem?_getD,hi]
theorem putBs_step {s T:Tri} {l:List S46} {i:Nat} (hi:i < l.length) (h:T = putBs s (i:Int) (l.drop i)):T = putBs (putK (i:Int) (putL (i:Int) s (l.getD i z46).f0) 0 (l.getD i z46).f1) ((i + 1:Nat):Int) (l.drop (i + 1)):=by
 rw [h,List.drop_eq_getElem_cons hi,putBs];simp [List.getD_eq_getElem?_getD,hi]
def Once (w0 W:World) (g:Nat) (d:Ck) (v3 v4:Value):Prop:=
 ∃ gw ga,CkB w0 W g d v3 v4 (.slice (some ⟨gw,0,none⟩) d.f.f3.length d.f.f3.length) (.slice (some ⟨ga,0,none⟩) d.f.f3.length d.f.f3.length) ∧ RowI W gw (onceT d.f).1 ∧ RowI W ga (onceT d.f).2.1 ∧
   (onceT d.f).1.length = d.f.f3.length ∧ (onceT d.f).2.1.length = d.f.f3.length ∧ (gw ≠ ga ∧ g ≠ gw ∧ g ≠ ga ∧ w0.heap.size ≤ gw ∧ w0.heap.size ≤ ga)
theorem onceE_of {f:S38} {t:Bool} (h:(onceT f).2.2.all (fun x=>x == 1) = t):onceE f = if t = true then 0 else 94:=by unfold onceE;rw [h]
theorem one_any (a:Int) (w:World):Calls Try.prog 45 #[.int .i64 a] w fun e w'=>e = .returned (.bool (a == 1)) ∧ Below w.heap.size w w':=by
 go_enter Try.func45,Try.ntmps45
 go_wp2
 go_ret
 exact ⟨rfl,Below.refl _ _⟩
set_option maxHeartbeats 4000000 in
set_option maxRecDepth 20000 in
theorem once_any (g:Nat) (d:Ck) (v3 v4 v5 v6:Value) (w0 w:World) (h:CkB w0 w g d v3 v4 v5 v6) (hG:Good d) (hn:d.f.f3.length < 262144) :
 Calls Try.prog 24 #[.pointer (some ⟨g,0,none⟩)] w fun e w'=>e = .returned (.int .i64 (onceE d.f)) ∧ Hid (Once w0 w' g d v3 v4) ∧ Hid (∀ j,j < w.heap.size → j ≠ g → w'.heap[j]? = w.heap[j]?):=by
 obtain ⟨fs,mn,A,c,p,f,A1,c1,A3,c3,A4,c4⟩:=d
 have hF:FnAt w0 p f A1 c1 A3 c3 A4 c4:=h.at_
 have HFT:=Lib.hid hF
 have hm3:=hF.r3.2.1
 have hm4:=hF.r4.2.1
 have hm1:=hF.r1.2.1
 have hp:p.block < w0.heap.size:=hF.plt
 have hmk:=fun W=>print_make (P:=Try.prog) 34 3 .i64 8 Try.underlying34 info3 (by decide) f.f3.length (by have:f.f3.length < 262144:=hn;omega) W
 have HN:=Lib.hid hn
 have HK:=Lib.hid h
 have HG:=Lib.hid hG
 obtain ⟨w1,hw1⟩:∃ w1,w1 = w.alloc (.cells #[.pointer (some ⟨g,0,none⟩)] 56):=⟨_,rfl⟩
 have hb1:Below w.heap.size w w1:=by rw [hw1];exact below_alloc (Below.refl _ _) _
 have hK1:=h.ck.below hb1
 have n1:¬ g = w.heap.size:=by have:=blk_lt h.bk;omega
 have n2:¬ w.heap.size = g:=by have:=blk_lt h.bk;omega
 have hbk1:=hK1.bk
 have y2:w1.cell? ⟨g,2,none⟩ = some (.pointer (some p)):=hK1.y2
 have x3:=hK1.at_.c3
 have z0:w1.cell? ⟨w.heap.size,0,none⟩ = some (.pointer (some ⟨g,0,none⟩)):=by rw [hw1];exact (blk_cell (blk_new w _) 0).trans rfl
 have y5:=hK1.y5
 have y6:=hK1.y6
 have f4:w1.frozen? ⟨g,5,none⟩ = false:=blk_frozen hbk1 5
 have f5:w1.frozen? ⟨g,6,none⟩ = false:=blk_frozen hbk1 6
 have HW:=Lib.hid hw1
 have HB1:=Lib.hid hb1
 clear hb1 hK1
 obtain ⟨O2,hO2⟩:∃ O2:Obj,O2 = .cells (madeCells #[.int .i64 0] f.f3.length) 3:=⟨_,rfl⟩
 have y2a:=cellO y2 O2
 have y5a:=cellO y5 O2
 have y6a:=cellO y6 O2
 have x3a:=cellO x3 O2
 have z0a:=cellO z0 O2
 have f4a:(w1.alloc O2).frozen? ⟨g,5,none⟩ = false:=frozenO hbk1 O2 5
 have f5a:(w1.alloc O2).frozen? ⟨g,6,none⟩ = false:=frozenO hbk1 O2 6
 have y2b:=cellO y2a O2
 have y5b:=cellO y5a O2
 have y6b:=cellO y6a O2
 have x3b:=cellO x3a O2
 have z0b:=cellO z0a O2
 have hbk2:=blkB (below_alloc (Below.refl _ _) O2) hbk1
 have f4b:((w1.alloc O2).alloc O2).frozen? ⟨g,5,none⟩ = false:=frozenO hbk2 O2 5
 have f5b:((w1.alloc O2).alloc O2).frozen? ⟨g,6,none⟩ = false:=frozenO hbk2 O2 6
 have hpg:∀ i,(⟨g,i,none⟩:Addr) ≠ ⟨p.block,p.off + 3,none⟩:=fun i e=>by injection e with e;have:=h.ge;omega
 have hgg:∀ i,(⟨g,i,none⟩:Addr) ≠ ⟨w.heap.size,0,none⟩:=fun i e=>by injection e with e;omega
 have y2c:=cellSO (p:=⟨g,5,none⟩) y2a (by simp) (.slice (some ⟨w1.heap.size,0,none⟩) f.f3.length f.f3.length) O2
 have y6c:=cellSO (p:=⟨g,5,none⟩) y6a (by simp) (.slice (some ⟨w1.heap.size,0,none⟩) f.f3.length f.f3.length) O2
 have x3c:=cellSO (p:=⟨g,5,none⟩) x3a (hpg _) (.slice (some ⟨w1.heap.size,0,none⟩) f.f3.length f.f3.length) O2
 have z0c:=cellSO (p:=⟨g,5,none⟩) z0a (hgg _) (.slice (some ⟨w1.heap.size,0,none⟩) f.f3.length f.f3.length) O2
 have y2d:=cellSO (p:=⟨g,6,none⟩) y2a (by simp) (.slice (some ⟨w1.heap.size,0,none⟩) f.f3.length f.f3.length) O2
 have y5d:=cellSO (p:=⟨g,6,none⟩) y5a (by simp) (.slice (some ⟨w1.heap.size,0,none⟩) f.f3.length f.f3.length) O2
 have x3d:=cellSO (p:=⟨g,6,none⟩) x3a (hpg _) (.slice (some ⟨w1.heap.size,0,none⟩) f.f3.length f.f3.length) O2
 have z0d:=cellSO (p:=⟨g,6,none⟩) z0a (hgg _) (.slice (some ⟨w1.heap.size,0,none⟩) f.f3.length f.f3.length) O2
 have hbkc:=blk_set hbk2 5 (.slice (some ⟨w1.heap.size,0,none⟩) f.f3.length f.f3.length)
 have hbkd:=blk_set hbk2 6 (.slice (some ⟨w1.heap.size,0,none⟩) f.f3.length f.f3.length)
 have f5c:(((w1.alloc O2).setCell ⟨g,5,none⟩ (.slice (some ⟨w1.heap.size,0,none⟩) f.f3.length f.f3.length)).alloc O2).frozen? ⟨g,6,none⟩ = false:=frozenO hbkc O2 6
 have f4d:(((w1.alloc O2).setCell ⟨g,6,none⟩ (.slice (some ⟨w1.heap.size,0,none⟩) f.f3.length f.f3.length)).alloc O2).frozen? ⟨g,5,none⟩ = false:=frozenO hbkd O2 5
 have HBK1:=Lib.hid hbk1
 clear hbk1 hbk2 hbkc hbkd h hF hG hn hpg hgg
 subst hO2
 go_enter Try.func24,Try.ntmps24
 go_wp2
 rw [← hw1]
 have HM:Hid (Mk w0 w1 w1 g w.heap.size ⟨fs,mn,A,c,p,f,A1,c1,A3,c3,A4,c4⟩ v3 v4 v5 v6 f.f3.length []):=Lib.hid ⟨by have:=HK.out.below;exact below_then this this.size HB1.out,HBK1.out,by rw [hw1];exact blk_new w _,fun _ _ _=>rfl,fun _ h=>by simp at h,Nat.le_refl _⟩
 have HGE:Hid (w0.heap.size ≤ g ∧ g < w1.heap.size ∧ w.heap.size ≠ g):=Lib.hid ⟨HK.out.ge,blk_lt HBK1.out,n2⟩
 have HM2:Hid (w0.heap.size ≤ w.heap.size ∧ w.heap.size < w1.heap.size):=Lib.hid ⟨HK.out.below.size,by rw [hw1];simp⟩
 generalize hg2:w.heap.size = g2 at *
 have HWS:=Lib.hid hg2
 clear hg2
 clear hw1
 go_cut [] (fun wx=>Hid (Made w0 w1 wx g g2 ⟨fs,mn,A,c,p,f,A1,c1,A3,c3,A4,c4⟩ v3 v4 f.f3.length))
 case first=>
  go_region
  all_goals
   go_wp2
   go_meet
  all_goals
   refine Lib.hid ?_
   apply Made.of
   case h=>
    apply Mk.drew
    repeat first | apply Mk.s6 (hg:=HGE.out.1) (h1:=HGE.out.2.1) (h2:=HGE.out.2.2) | apply Mk.s5 (hg:=HGE.out.1) (h1:=HGE.out.2.1) (h2:=HGE.out.2.2) | apply Mk.alloc (ha:=rfl)
    exact HM.out
   all_goals simp
 case rest=>
  have HC:=Lib.hid hcut.out
  clear hcut z0 y2 x3 y5 y6 f4 f5 y2a y5a y6a x3a z0a f4a f5a y2b y5b y6b x3b z0b f4b f5b y2c y6c x3c z0c y2d y5d x3d z0d f5c f4d
  obtain ⟨gw,ga,rs,hM,hgw,hga,hne⟩:=HC.out
  have hF:=HK.out.at_.below hM.below
  have x3:=hF.c3
  have z0:wc.cell? ⟨g2,0,none⟩ = some (.pointer (some ⟨g,0,none⟩)):=(blk_cell hM.b2 0).trans rfl
  have y2:wc.cell? ⟨g,2,none⟩ = some (.pointer (some p)):=(blk_cell hM.bk 2).trans rfl
  obtain ⟨O2,hO2⟩:∃ O2:Obj,O2 = .cells (madeCells #[.int .i64 0] f.f3.length) 3:=⟨_,rfl⟩
  obtain ⟨O3,hO3⟩:∃ O3:Obj,O3 = .cells #[.slice (some ⟨wc.heap.size,0,none⟩) f.f3.length f.f3.length] 34:=⟨_,rfl⟩
  have hx:=below_alloc (below_alloc (Below.refl wc.heap.size wc) O2) O3
  have x1:((wc.alloc O2).alloc O3).cell? ⟨p.block,p.off + 1,none⟩ = some (.slice A1 f.f1.length c1):=cellB hx hF.c1
  have z0':=cellB hx z0
  have y2':=cellB hx y2
  obtain ⟨g3,hg3⟩:∃ g3,g3 = wc.heap.size + 1:=⟨_,rfl⟩
  have hge:=HGE.out
  have hgw1:=hM.rows gw hgw
  have hga1:=hM.rows ga hga
  have hgl:=blk_lt hgw1.1
  have hgl2:=blk_lt hga1.1
  have hgl3:=blk_lt hM.bk
  have hgl4:=blk_lt hM.b2
  have hb2':=HM2.out.2
  have hAP:Hid (Ap w0 w g g2 g3 gw ga wc.heap.size):=Lib.hid ⟨by have:=HM2.out.1;omega,by have:=HWS.out;omega,by omega⟩
  have hz:wc.alloc O2 = wc.alloc (.cells (nums .i64 (List.replicate f.f3.length 0)).toArray 3):=by rw [hO2,made_zeros]
  have hST:Hid (St w0 w ((wc.alloc O2).alloc O3) g g2 g3 gw ga wc.heap.size ⟨fs,mn,A,c,p,f,A1,c1,A3,c3,A4,c4⟩ v3 v4 f.f3.length (zeros f.f3.length)):=Lib.hid (by
   refine ⟨below_then hM.below hM.below.size hx,fun j hj hjg=>((hx.block j (by have:=hM.size;have:=HWS.out;omega)).trans (hM.keep j (by have:=HWS.out;omega) hjg)).trans (HB1.out.block j (by have:=HWS.out;omega)),by have:=hM.size;have:=hx.size;have:=HWS.out;omega,blkB hx hM.bk,blkB hx hM.b2,?_,hgw1.1.below hx,hga1.1.below hx,?_,by simp [zeros],by simp [zeros],by simp [zeros]⟩
   ·rw [hO3,hg3]
    have:=blk_new (wc.alloc O2) (.cells #[.slice (some ⟨wc.heap.size,0,none⟩) f.f3.length f.f3.length] 34)
    rwa [show (wc.alloc O2).heap.size = wc.heap.size + 1 from by simp] at this
   ·refine RowI.below (w:=wc.alloc O2) ?_ (below_alloc (Below.refl _ _) O3)
    rw [hz]
    exact blk_new wc _)
  clear hgw1 hga1 hgl hgl2 hgl3 hgl4 hb2' hge
  have HM:=Lib.hid hM
  have HX:=Lib.hid hx
  clear HC hM hF hx hgw hga hne hz
  subst hO2
  rw [hO3] at x1 z0' y2' hST
  clear hO3
  subst hg3
  obtain ⟨D,hD⟩:∃ D:Ck,D = ⟨fs,mn,A,c,p,f,A1,c1,A3,c3,A4,c4⟩:=⟨_,rfl⟩
  rw [← hD] at hST
  have HD:=Lib.hid hD
  clear hD
  have r1:=Lib.hid (HK.out.at_.r1)
  have HE1:Hid (putL (-1) (zeros f.f3.length) f.f1 = putL (-1) (zeros f.f3.length) f.f1):=Lib.hid rfl
  generalize hPL:putL (-1) (zeros f.f3.length) f.f1 = PL at *
  have hPL0:=Lib.hid hPL
  go_wp2
  go_loopg [6,55] (f.f1.length) (fun k _ v wr=>∃ (i:Nat) (s:Tri),i ≤ f.f1.length ∧ v = .int .i64 i ∧ Hid (i + k = f.f1.length) ∧ Hid (PL = putL (-1) s (f.f1.drop i)) ∧ Hid (St w0 w wr g g2 (wc.heap.size + 1) gw ga wc.heap.size D v3 v4 f.f3.length s))
  case atStart=>exact ⟨0,zeros f.f3.length,by omega,rfl,Lib.hid (by omega),Lib.hid (by simpa using hPL.symm),hST⟩
  case round=>
   obtain ⟨i,s,hi,rfl,HI,HP,HS⟩:=hrel
   by_cases hlt:i < f.f1.length
   ·obtain ⟨ad,hA,hcell⟩:=int_at (Kd.C_below r1.out HS.out.below) hlt
    obtain rfl:=hA
    have hin:Hid (inB f.f3.length (f.f1.getD i 0) = true):=Lib.hid (List.all_eq_true.1 HG.out.params _ (mem_getD 0 hlt))
    have HNX:=Lib.hid (putL_step hlt HP.out)
    generalize f.f1.getD i 0 = x at *
    clear hPL
    go_wp2_with (first | (go_at_call 44;with_reducible refine Calls.mono (put_any w0 w g g2 (wc.heap.size + 1) gw ga wc.heap.size D v3 v4 f.f3.length s x (-1) (-1) _ HS.out hAP.out hm3 hin.out) ?_;rintro e w2 ⟨rfl,HS2,HO2⟩) | (go_at_call 44;refine stop_intro ?_))
    go_roundg (gk - 1)
    case measure=>have:=HI.out;omega
    case rel=>exact ⟨i + 1,_,by omega,by go_num,Lib.hid (by have:=HI.out;omega),HNX,HS2⟩
   ·have HPL:Hid (PL = s):=Lib.hid (by rw [HP.out,List.drop_eq_nil_of_le (by omega),putL])
    have hF2:=HFT.out.below HS.out.below
    have z0:wr.cell? ⟨g2,0,none⟩ = some (.pointer (some ⟨g,0,none⟩)):=(blk_cell HS.out.b2 0).trans rfl
    have y2:wr.cell? ⟨g,2,none⟩ = some (.pointer (some p)):=by have:=(blk_cell HS.out.bk 2);rw [this,HD.out];rfl
    have x4:=hF2.c4
    clear hF2 hPL z0' y2' x1
    obtain ⟨T,hT⟩:∃ T,onceT f = T:=⟨_,rfl⟩
    have hT0:=Lib.hid hT
    have HT:Hid (T = putBs s 0 f.f4):=Lib.hid (by rw [← hT,← HPL.out];exact congrArg (fun z=>putBs z 0 f.f4) hPL0.out)
    have HW1:=HS
    clear hT HS HP HI
    go_wp2
    go_loopg [7,8,10,11,12,71] (f.f4.length) (fun k _ _ _ _ _ v wr=>∃ (i:Nat) (s:Tri),i ≤ f.f4.length ∧ v = .int .i64 i ∧ Hid (i + k = f.f4.length) ∧ Hid (T = putBs s (i:Int) (f.f4.drop i)) ∧ Hid (St w0 w wr g g2 (wc.heap.size + 1) gw ga wc.heap.size D v3 v4 f.f3.length s))
    case atStart=>exact ⟨0,s,by omega,rfl,Lib.hid (by omega),HT,HW1⟩
    case round=>
     clear z0 y2 x4
     obtain ⟨i,s,hi,rfl,HI,HP,HS⟩:=hrel
     by_cases hlt:i < f.f4.length
     ·obtain ⟨ad4,B0,d0,B1,d1,B4,d4,B5,d5,hA4,q0,q1,q2,q3,q4,q5,l0,r0,l1,r1,l4,r4,l5,r5⟩:=at_T46 HFT.out.r4 (i:Int) (by omega) (by omega)
      obtain rfl:=hA4
      rw [Int.toNat_natCast] at q0 q1 q2 q3 q4 q5
      have q0:=cellB HS.out.below q0
      have q1:=cellB HS.out.below q1
      have q2:=cellB HS.out.below q2
      have q3:=cellB HS.out.below q3
      have q4:=cellB HS.out.below q4
      have q5:=cellB HS.out.below q5
      have R0:=Lib.hid r0
      have R1:=Lib.hid r1
      have m0:=r0.2.1
      have m1:=r1.2.1
      clear r0 r1 r4 r5
      have hx0:rd_T46 f.f4 (i:Int) = f.f4.getD i z46:=by simp [rd_T46]
      have HBL:=Lib.hid (block_phis (HG.out.blocks _ (mem_getD z46 hlt)))
      have HNX:=Lib.hid (putBs_step hlt HP.out)
      rw [← hx0] at HNX HBL
      clear hx0
      generalize rd_T46 f.f4 (i:Int) = b at *
      obtain ⟨O,hO⟩:∃ O:Obj,O = .cells #[.slice B0 b.f0.length d0,.slice B1 b.f1.length d1,.int .i64 b.f2.f0,.int .i64 b.f2.f1,.slice B4 b.f2.f2.length d4,.slice B5 b.f3.length d5] 46:=⟨_,rfl⟩
      have HS1:=Lib.hid (HS.out.then_ (below_alloc (Below.refl _ _) O))
      have HK3:=Lib.hid (blk_new wr O)
      rw [hO] at HS1 HK3
      clear hO
      have HGB:Hid (wr.heap.size ≠ gw ∧ wr.heap.size ≠ ga ∧ wr.heap.size ≠ wc.heap.size):=Lib.hid ⟨Nat.ne_of_gt (blk_lt HS.out.rw_),Nat.ne_of_gt (blk_lt HS.out.ra),Nat.ne_of_gt (blk_lt HS.out.rt)⟩
      generalize hPH:putL (i:Int) s b.f0 = PH at *
      have HPH:=Lib.hid hPH.symm
      clear hPH
      generalize hPK:putK (i:Int) PH 0 b.f1 = PK at *
      have HPK:=Lib.hid hPK.symm
      clear hPK
      obtain ⟨gb,hgb⟩:∃ gb,gb = wr.heap.size:=⟨_,rfl⟩
      rw [← hgb] at HGB HK3
      generalize gk = gk1 at *
      go_wp2
      rw [← hgb]
      clear q0 q1 q2 q3 q4 q5 hgb
      clear HS hi
      go_loopg [10,79] (b.f0.length) (fun k _ v wr=>∃ (j:Nat) (s2:Tri),j ≤ b.f0.length ∧ v = .int .i64 j ∧ Hid (j + k = b.f0.length) ∧ Hid (PH = putL (i:Int) s2 (b.f0.drop j)) ∧ Hid (St w0 w wr g g2 (wc.heap.size + 1) gw ga wc.heap.size D v3 v4 f.f3.length s2) ∧ Hid (wr.heap[gb]? = some (.cells #[.slice B0 b.f0.length d0,.slice B1 b.f1.length d1,.int .i64 b.f2.f0,.int .i64 b.f2.f1,.slice B4 b.f2.f2.length d4,.slice B5 b.f3.length d5] 46 (0,0))))
      case atStart=>exact ⟨0,s,by omega,rfl,Lib.hid (by omega),Lib.hid (by simpa using HPH.out),HS1,HK3⟩
      case round=>
       clear HS1 HK3
       obtain ⟨j,s2,hj,rfl,HJ,HP2,HS2,HK2⟩:=hrel
       by_cases hlt2:j < b.f0.length
       ·obtain ⟨ad,hA,hcell⟩:=int_at (Kd.C_below R0.out HS2.out.below) hlt2
        obtain rfl:=hA
        have hin:Hid (inB f.f3.length (b.f0.getD j 0) = true):=Lib.hid (List.all_eq_true.1 HBL.out.1 _ (mem_getD 0 hlt2))
        have HNX2:=Lib.hid (putL_step hlt2 HP2.out)
        generalize b.f0.getD j 0 = x at *
        go_wp2_with (first | (go_at_call 44;with_reducible refine Calls.mono (put_any w0 w g g2 (wc.heap.size + 1) gw ga wc.heap.size D v3 v4 f.f3.length s2 x i (-1) _ HS2.out hAP.out hm3 hin.out) ?_;rintro e w2 ⟨rfl,HS3,HO3⟩) | (go_at_call 44;refine stop_intro ?_))
        go_roundg (gk - 1)
        case measure=>have:=HJ.out;omega
        case rel=>exact ⟨j + 1,_,by omega,by go_num,Lib.hid (by have:=HJ.out;omega),HNX2,HS3,Lib.hid (HO3.out _ _ _ HK2.out HGB.out.1 HGB.out.2.1 HGB.out.2.2)⟩
       ·have HPE:Hid (PH = s2):=Lib.hid (by rw [HP2.out,List.drop_eq_nil_of_le (by omega),putL])
        have y1:wr.cell? ⟨gb,1,none⟩ = some (.slice B1 b.f1.length d1):=(blk_cell HK2.out 1).trans rfl
        have HP3:Hid (PK = putK (i:Int) s2 ((0:Nat):Int) (b.f1.drop 0)):=Lib.hid (by rw [HPK.out,HPE.out];rfl)
        have HS4:=HS2
        have HK4:=HK2
        clear HP2 HPE HPH HPK HS2 HK2 HJ
        generalize gk = gk2 at *
        go_wp2
        clear hj hlt2
        go_loopg [11,12,91] (b.f1.length) (fun k _ _ v wr=>∃ (j:Nat) (s2:Tri),j ≤ b.f1.length ∧ v = .int .i64 j ∧ Hid (j + k = b.f1.length) ∧ Hid (PK = putK (i:Int) s2 (j:Int) (b.f1.drop j)) ∧ Hid (St w0 w wr g g2 (wc.heap.size + 1) gw ga wc.heap.size D v3 v4 f.f3.length s2) ∧ Hid (wr.heap[gb]? = some (.cells #[.slice B0 b.f0.length d0,.slice B1 b.f1.length d1,.int .i64 b.f2.f0,.int .i64 b.f2.f1,.slice B4 b.f2.f2.length d4,.slice B5 b.f3.length d5] 46 (0,0))))
        case atStart=>exact ⟨0,s2,by omega,rfl,Lib.hid (by omega),HP3,HS4,HK4⟩
        case round=>
         clear HS4 HK4 y1 HP3
         obtain ⟨j,s2,hj,rfl,HJ,HP2,HS2,HK2⟩:=hrel
         by_cases hlt2:j < b.f1.length
         ·obtain ⟨ad,hA,hcell⟩:=int_at (Kd.C_below R1.out HS2.out.below) hlt2
          obtain rfl:=hA
          have hin:Hid (inB f.f3.length (b.f1.getD j 0) = true):=Lib.hid (List.all_eq_true.1 HBL.out.2.1 _ (mem_getD 0 hlt2))
          have HNX2:=Lib.hid (putK_step hlt2 HP2.out)
          generalize b.f1.getD j 0 = x at *
          go_wp2_with (first | (go_at_call 44;with_reducible refine Calls.mono (put_any w0 w g g2 (wc.heap.size + 1) gw ga wc.heap.size D v3 v4 f.f3.length s2 x i j _ HS2.out hAP.out hm3 hin.out) ?_;rintro e w2 ⟨rfl,HS3,HO3⟩) | (go_at_call 44;refine stop_intro ?_))
          go_roundg (gk - 1)
          case measure=>have:=HJ.out;omega
          case rel=>exact ⟨j + 1,_,by omega,by go_num,Lib.hid (by have:=HJ.out;omega),HNX2,HS3,Lib.hid (HO3.out _ _ _ HK2.out HGB.out.1 HGB.out.2.1 HGB.out.2.2)⟩
         ·have HPE:Hid (PK = s2):=Lib.hid (by rw [HP2.out,List.drop_eq_nil_of_le (by omega),putK])
          go_wp2
          go_roundg (gk1 - 1)
          case measure=>have:=HI.out;omega
          case rel=>exact ⟨i + 1,_,by omega,by go_num,Lib.hid (by have:=HI.out;omega),HNX,by rw [HPE.out];exact HS2⟩
     ·have HPT:Hid (T = s):=Lib.hid (by rw [HP.out,List.drop_eq_nil_of_le (by omega),putBs])
      have y3:wr.cell? ⟨wc.heap.size + 1,0,none⟩ = some (.slice (some ⟨wc.heap.size,0,none⟩) f.f3.length f.f3.length):=(blk_cell HS.out.b3 0).trans rfl
      have hl3:=HS.out.l3
      have HAL:=Lib.hid ((all_int 45 #[] (fun x=>x == 1) (some ⟨wc.heap.size,0,none⟩) f.f3.length s.2.2 wr (HS.out.rt.C (by omega)) (by omega) enter45 (fun x hx W hb=>one_any x W)).mono (fun e w' h=>(⟨_,h.1,Lib.hid rfl,h.2⟩:∃ t,e = .returned (.bool t) ∧ Hid (s.2.2.all (fun x=>x == 1) = t) ∧ Below wr.heap.size wr w')))
      rw [hl3] at HAL
      have HOE:Hid (∀ t,s.2.2.all (fun x=>x == 1) = t → onceE f = if t = true then 0 else 94):=Lib.hid (fun t h=>onceE_of (by rw [hT0.out,HPT.out];exact h))
      clear hl3
      go_wp2_with (first | (go_at_call 42;with_reducible refine Calls.mono HAL.out ?_;rintro e w2 ⟨t,rfl,HT1,hb2⟩) | (go_at_call 42;refine stop_intro ?_))
      all_goals
       have HFin:Hid (Once w0 w2 g ⟨fs,mn,A,c,p,f,A1,c1,A3,c3,A4,c4⟩ v3 v4):=Lib.hid (by
        have hS:=HS.out.then_ hb2
        have hD:=HD.out
        subst hD
        refine ⟨gw,ga,⟨HK.out.at_,HK.out.fs_,HK.out.hc,hS.below,HK.out.ge,hS.bk⟩,?_,?_,?_,?_,?_⟩
        ·rw [hT0.out,HPT.out];exact hS.rw_
        ·rw [hT0.out,HPT.out];exact hS.ra
        ·rw [hT0.out,HPT.out];exact hS.l1
        ·rw [hT0.out,HPT.out];exact hS.l2
        ·have:=hAP.out.a1;have:=hAP.out.a2;omega)
       have HR:=HOE.out t HT1.out
       have HKEEP:Hid (∀ j,j < w.heap.size → j ≠ g → w2.heap[j]? = w.heap[j]?):=Lib.hid ((HS.out.then_ hb2).keep)
       go_ret
      ·refine ⟨ret_i (Eq.trans ?_ HR.symm),HFin,HKEEP⟩
       rw [if_neg (by simpa using ‹(!t) = true›)]
      ·refine ⟨ret_i (Eq.trans ?_ HR.symm),HFin,HKEEP⟩
       rw [if_pos (by simpa using ‹(!t) = false›)]
end Go.Proofs.Ytgbeliajhccndaa
end
section
set_option linter.unusedVariables false
set_option linter.unusedSimpArgs false
namespace Go.Proofs.Ytgbeliajhccndaa
open Go.RowKit Go.Proofs.YtgbeliajhccndaaW.PrintWords Go.Proofs.YtgbeliajhccndaaW.PrintLast Go.Proofs.YtgbeliajhccndaaW.PrintMore PP
def kidsF (T:List Int):List (List Int) → Nat → Nat → List (List Int)
 | rs,_,0=>rs
 | rs,b,k + 1=>kidsF T (if 0 ≤ T.getD b 0 then addAt rs (T.getD b 0).toNat (b:Int) else rs) (b + 1) k
def kidsOf (T:List Int):List (List Int):=kidsF T (List.replicate T.length []) 0 T.length
def walkF:Nat → Int → List Int → List Int → List (List Int) → List Int → Option (List Int × List Int)
 | 0,_,_,_,_,_=>none
 | _ + 1,_,F,L,_,[]=>some (F,L)
 | k + 1,n,F,L,kids,b :: st=>
   match kids.getD b.toNat [] with
   | []=>walkF k (if F.getD b.toNat 0 = 0 then n + 1 else n) (if F.getD b.toNat 0 = 0 then F.set b.toNat (n + 1) else F) (L.set b.toNat (if F.getD b.toNat 0 = 0 then n + 1 else n)) kids st
   | c :: r=>walkF k (if F.getD b.toNat 0 = 0 then n + 1 else n) (if F.getD b.toNat 0 = 0 then F.set b.toNat (n + 1) else F) L (kids.set b.toNat (c :: r).dropLast) ((c :: r).getLast (by simp) :: b :: st)
def walkOf (T:List Int) (K:Nat):Option (List Int × List Int):=walkF K 0 (List.replicate T.length 0) (List.replicate T.length 0) (kidsOf T) [0]
structure LdU (sz:Nat) (wr:World) (gk:Nat) (hs:List Hd) (rs:List (List Int)):Prop where
 ld:Ld 0 wr gk hs rs
 up:∀ i k,i < hs.length → (encH (hs.getD i zH)).ownBlock = some k → k < sz
 gk:gk < sz
section
variable {sz gk:Nat} {wr W:World} {hs:List Hd} {rs:List (List Int)}
theorem LdU.keep (h:LdU sz wr gk hs rs) (hk:∀ k,k < sz → k ≠ gk → W.heap[k]? = wr.heap[k]?) (hg:W.heap[gk]? = wr.heap[gk]?):LdU sz W gk hs rs:=
 ⟨⟨by rw [hg];exact h.ld.blk,h.ld.len,fun i hi=>int_flat (h.ld.row i hi) (fun k hq=>hk k (h.up i k hi hq) (h.ld.ne hi hq)),h.ld.apart⟩,h.up,h.gk⟩
theorem LdU.cut (h:LdU sz wr gk hs rs) {i:Nat} (hi:i < hs.length) {a:Option Addr} {n c m:Nat} (hh:hs.getD i zH = ⟨a,n,c⟩) (hm:m ≤ n):LdU sz (wr.setCell ⟨gk,i,none⟩ (.slice a m c)) gk (hs.set i ⟨a,m,c⟩) (rs.set i ((rs.getD i []).take m)):=by
 have hlr:=h.ld.len
 have e1:∀ j,j ≠ i → (hs.set i (⟨a,m,c⟩:Hd)).getD j zH = hs.getD j zH:=fun j hj=>by simp [List.getD_eq_getElem?_getD,List.getElem?_set,Ne.symm hj]
 have e2:(hs.set i (⟨a,m,c⟩:Hd)).getD i zH = ⟨a,m,c⟩:=by simp [List.getD_eq_getElem?_getD,List.getElem?_set,hi]
 have e3:∀ j,j ≠ i → (rs.set i ((rs.getD i []).take m)).getD j [] = rs.getD j []:=fun j hj=>by simp [List.getD_eq_getElem?_getD,List.getElem?_set,Ne.symm hj]
 have e4:(rs.set i ((rs.getD i []).take m)).getD i [] = (rs.getD i []).take m:=by
  have:i < rs.length:=by omega
  simp [List.getD_eq_getElem?_getD,List.getElem?_set,this]
 have hown:(encH (⟨a,m,c⟩:Hd)).ownBlock = (encH (hs.getD i zH)).ownBlock:=by rw [hh];cases a <;> rfl
 have hown2:∀ j,(encH ((hs.set i (⟨a,m,c⟩:Hd)).getD j zH)).ownBlock = (encH (hs.getD j zH)).ownBlock:=by
  intro j
  by_cases e:j = i
  ·subst e;rw [e2,hown]
  ·rw [e1 j e]
 have hlen:(hs.set i (⟨a,m,c⟩:Hd)).length = hs.length:=by simp
 refine ⟨⟨?_,by simp [hlr],fun j hj=>?_,fun x y k hx hy hxy hk=>?_⟩,fun j k hj hk=>?_,h.gk⟩
 ·rw [blk_set h.ld.blk];simp [List.map_set,encH]
 ·rw [hlen] at hj
  by_cases e:j = i
  ·subst e
   rw [e2,e4]
   have h1:=h.ld.row j hj
   have h2:=(h.ld.C hj).1
   rw [hh] at h1 h2
   simp only at h2
   have h4:=Kd.own_of_R h1
   have h3:=own_take (m:=m) (c:=c) (A:=a) (n:=(rs.getD j []).length) (by rw [← h2];rw [← h2] at h4;exact h4) (by omega)
   refine int_flat (w:=wr) (Kd.R_of_own ?_ (fun _ _=>trivial)) (fun k hk=>Below.heap_setCell _ _ _ _ ?_)
   ·have hl:((rs.getD j []).take m).length = m:=by rw [List.length_take];omega
    rw [hl]
    have e5:(encs (Value.int .i64) (rs.getD j [])).take (m * 1) = encs (Value.int .i64) ((rs.getD j []).take m):=by simp [encs,List.map_take]
    rw [e5] at h3
    exact h3
   ·refine h.ld.ne hj (i:=j) ?_
    rw [← hown]
    exact hk
  ·rw [e1 j e,e3 j e]
   exact int_flat (h.ld.row j hj) (fun k hk=>Below.heap_setCell _ _ _ _ (h.ld.ne hj hk))
 ·rw [hlen] at hx hy
  rw [hown2] at hk ⊢
  exact h.ld.apart x y k hx hy hxy hk
 ·rw [hlen] at hj
  rw [hown2] at hk
  exact h.up j k hj hk
end
theorem LdU.of {b g gk:Nat} {wk W:World} {hs:List Hd} {rs:List (List Int)} (h:Ld b wk gk hs rs) (hb:g < b) (hg:gk ≠ g) (hk:∀ j,j < wk.heap.size → j ≠ g → W.heap[j]? = wk.heap[j]?):LdU wk.heap.size W gk hs rs:=by
 have hgl:=blk_lt h.blk
 refine ⟨⟨(hk gk hgl hg).trans h.blk,h.len,fun i hi=>?_,h.apart⟩,fun i k hi hq=>(rowI_block (h.row i hi) hq).2.1,hgl⟩
 refine int_flat (Kd.R_lower (h.row i hi) (Nat.zero_le _)) (fun k hq=>?_)
 obtain ⟨q1,q2,_⟩:=rowI_block (h.row i hi) hq
 exact hk k q2 (by omega)
structure Mk2 (w0 w1 x:World) (g:Nat) (d:Ck) (v3 v4 v5 v6:Value) (n:Nat) (rs:List Nat):Prop where
 below:Below w0.heap.size w0 x
 bk:x.heap[g]? = some (.cells #[.slice d.A d.fs.length d.c,.int .i64 d.mn,.pointer (some d.p),v3,v4,v5,v6] 58 (0,0))
 keep:∀ j,j < w1.heap.size → j ≠ g → x.heap[j]? = w1.heap[j]?
 rows:∀ a ∈ rs,RowI x a (List.replicate n 0) ∧ w1.heap.size ≤ a
 size:w1.heap.size ≤ x.heap.size
section
variable {w0 w1 x:World} {g:Nat} {d:Ck} {v3 v4 v5 v6:Value} {n:Nat} {rs:List Nat}
theorem Mk2.drew (h:Mk2 w0 w1 x g d v3 v4 v5 v6 n rs):Mk2 w0 w1 x.drew g d v3 v4 v5 v6 n rs:=⟨below_drew h.below,h.bk,h.keep,h.rows,h.size⟩
theorem Mk2.alloc (h:Mk2 w0 w1 x g d v3 v4 v5 v6 n rs) (a:Nat) (ha:x.heap.size = a):Mk2 w0 w1 (x.alloc (.cells (madeCells #[.int .i64 0] n) 3)) g d v3 v4 v5 v6 n (a :: rs):=by
 have hb:=below_alloc (Below.refl x.heap.size x) (.cells (madeCells #[.int .i64 0] n) 3)
 subst ha
 refine ⟨below_alloc h.below _,blkB hb h.bk,fun j hj hg=>(hb.block j (Nat.lt_of_lt_of_le hj h.size)).trans (h.keep j hj hg),?_,?_⟩
 ·intro a hm
  rcases List.mem_cons.1 hm with rfl | hm
  ·exact ⟨by unfold RowI;rw [← made_zeros];exact blk_new x _,h.size⟩
  ·exact ⟨(h.rows a hm).1.below hb,(h.rows a hm).2⟩
 ·have:=h.size
  have:=hb.size
  omega
theorem Mk2.s3 (h:Mk2 w0 w1 x g d v3 v4 v5 v6 n rs) (hg:w0.heap.size ≤ g) (h1:g < w1.heap.size) (u:Value):Mk2 w0 w1 (x.setCell ⟨g,3,none⟩ u) g d u v4 v5 v6 n rs:=
 ⟨below_set h.below hg,(blk_set h.bk 3 u).trans rfl,fun j hj hg=>(Below.heap_setCell _ _ _ _ hg).trans (h.keep j hj hg),fun a ha=>⟨(h.rows a ha).1.far (by have:=(h.rows a ha).2;show a ≠ g;omega) u,(h.rows a ha).2⟩,by have:=h.size;simpa [World.setCell] using this⟩
theorem Mk2.s4 (h:Mk2 w0 w1 x g d v3 v4 v5 v6 n rs) (hg:w0.heap.size ≤ g) (h1:g < w1.heap.size) (u:Value):Mk2 w0 w1 (x.setCell ⟨g,4,none⟩ u) g d v3 u v5 v6 n rs:=
 ⟨below_set h.below hg,(blk_set h.bk 4 u).trans rfl,fun j hj hg=>(Below.heap_setCell _ _ _ _ hg).trans (h.keep j hj hg),fun a ha=>⟨(h.rows a ha).1.far (by have:=(h.rows a ha).2;show a ≠ g;omega) u,(h.rows a ha).2⟩,by have:=h.size;simpa [World.setCell] using this⟩
end
def Made2 (w0 w1 x:World) (g:Nat) (d:Ck) (v5 v6:Value) (n:Nat):Prop:=
 ∃ gw ga rs,Mk2 w0 w1 x g d (.slice (some ⟨gw,0,none⟩) n n) (.slice (some ⟨ga,0,none⟩) n n) v5 v6 n rs ∧ gw ∈ rs ∧ ga ∈ rs ∧ gw ≠ ga
theorem Made2.of {w0 w1 x:World} {g:Nat} {d:Ck} {v5 v6:Value} {n gw ga:Nat} {rs:List Nat} (h:Mk2 w0 w1 x g d (.slice (some ⟨gw,0,none⟩) n n) (.slice (some ⟨ga,0,none⟩) n n) v5 v6 n rs) (h1:gw ∈ rs) (h2:ga ∈ rs) (h3:gw ≠ ga):Made2 w0 w1 x g d v5 v6 n:=⟨gw,ga,rs,h,h1,h2,h3⟩
structure KdW (w wt wr:World) (gk gt:Nat) (T:List Int) (hs:List Hd) (rs:List (List Int)):Prop where
 below:Below w.heap.size w wr
 tr:RowI wr gt T
 ld:Ld wt.heap.size wr gk hs rs
 b1:w.heap.size ≤ gk
 b2:gk < wt.heap.size
 b3:gt < wt.heap.size
 b4:gt ≠ gk
 b5:wt.heap.size ≤ wr.heap.size
theorem KdW.app {w wt wr w1:World} {gk gt:Nat} {T:List Int} {hs:List Hd} {rs:List (List Int)} (h:KdW w wt wr gk gt T hs rs) {i:Nat} (hi:i < hs.length) {h1:Hd} {x:Int} (hR:(Kd.int .i64).R 3 w1 wt.heap.size (fun _=>True) (encH h1) (rs.getD i [] ++ [x])) (hg:wr.grownBy w1 (encH (hs.getD i zH)).ownBlock)
 (hat:(encH h1).ownBlock = (encH (hs.getD i zH)).ownBlock ∨ ∃ b,(encH h1).ownBlock = some b ∧ wr.heap.size ≤ b) :
 KdW w wt (w1.setCell ⟨gk,i,none⟩ (encH h1)) gk gt T (hs.set i h1) (addAt rs i x):=by
 have hb:∀ k,(encH (hs.getD i zH)).ownBlock = some k → wt.heap.size ≤ k:=fun k hk=>(rowI_block (h.ld.row i hi) hk).1
 have q1:=h.b1
 have q2:=h.b2
 have q3:=h.b3
 have q5:=h.b5
 refine ⟨below_set (h.below.grown hg h.below.size (fun k hk=>by have:=hb k hk;omega)) h.b1,?_,h.ld.app hi hR hg hat,h.b1,h.b2,h.b3,h.b4,?_⟩
 ·refine RowI.far (p:=⟨gk,i,none⟩) ?_ h.b4 _
  show w1.heap[gt]? = _
  rw [hg.block gt h.tr.lt (fun e=>by have:=hb gt e.symm;omega)]
  exact h.tr
 ·have:=hg.size
  show _ ≤ (w1.setCell _ _).heap.size
  simp [World.setCell]
  omega
structure WkS (w0 w wr:World) (sz g gk gf gl:Nat) (d:Ck) (v5 v6:Value) (n:Nat) (F L:List Int) (hs:List Hd) (kids:List (List Int)):Prop where
 below:Below w0.heap.size w0 wr
 bk:wr.heap[g]? = some (.cells #[.slice d.A d.fs.length d.c,.int .i64 d.mn,.pointer (some d.p),.slice (some ⟨gf,0,none⟩) n n,.slice (some ⟨gl,0,none⟩) n n,v5,v6] 58 (0,0))
 rf:RowI wr gf F
 rl:RowI wr gl L
 ld:LdU sz wr gk hs kids
 keep:∀ j,j < w.heap.size → j ≠ g → wr.heap[j]? = w.heap[j]?
 l1:F.length = n
 l2:L.length = n
 l3:hs.length = n
structure WkA (w0 w:World) (sz g gk gf gl bb:Nat):Prop where
 a1:w0.heap.size ≤ g ∧ g < w.heap.size ∧ w.heap.size ≤ gk ∧ gk < sz ∧ sz ≤ gf ∧ sz ≤ gl ∧ gf < bb ∧ gl < bb ∧ w0.heap.size ≤ w.heap.size
 a2:gf ≠ gl
section
variable {w0 w wr W:World} {sz g gk gf gl bb:Nat} {d:Ck} {v5 v6:Value} {n:Nat} {F L:List Int} {hs:List Hd} {kids:List (List Int)}
theorem WkS.setF (h:WkS w0 w wr sz g gk gf gl d v5 v6 n F L hs kids) (ha:WkA w0 w sz g gk gf gl bb) (i:Nat) (x:Int):WkS w0 w (wr.setCell ⟨gf,i,none⟩ (.int .i64 x)) sz g gk gf gl d v5 v6 n (F.set i x) L hs kids:=by
 obtain ⟨p0,p1,p2,p3,p4,p5,p6,p7,p8⟩:=ha.a1
 have p9:=ha.a2
 exact ⟨below_set h.below (by omega),blk_far h.bk (by show g ≠ gf;omega) _,h.rf.set i x,h.rl.far (p:=⟨gf,i,none⟩) (by show gl ≠ gf;omega) _,h.ld.keep (fun k hk _=>Below.heap_setCell _ _ _ _ (by show k ≠ gf;omega)) (Below.heap_setCell _ _ _ _ (by show gk ≠ gf;omega)),fun j hj hg=>(Below.heap_setCell _ _ _ _ (by show j ≠ gf;omega)).trans (h.keep j hj hg),by simp [h.l1],h.l2,h.l3⟩
theorem WkS.setL (h:WkS w0 w wr sz g gk gf gl d v5 v6 n F L hs kids) (ha:WkA w0 w sz g gk gf gl bb) (i:Nat) (x:Int):WkS w0 w (wr.setCell ⟨gl,i,none⟩ (.int .i64 x)) sz g gk gf gl d v5 v6 n F (L.set i x) hs kids:=by
 obtain ⟨p0,p1,p2,p3,p4,p5,p6,p7,p8⟩:=ha.a1
 have p9:=ha.a2
 exact ⟨below_set h.below (by omega),blk_far h.bk (by show g ≠ gl;omega) _,h.rf.far (p:=⟨gl,i,none⟩) (by show gf ≠ gl;omega) _,h.rl.set i x,h.ld.keep (fun k hk _=>Below.heap_setCell _ _ _ _ (by show k ≠ gl;omega)) (Below.heap_setCell _ _ _ _ (by show gk ≠ gl;omega)),fun j hj hg=>(Below.heap_setCell _ _ _ _ (by show j ≠ gl;omega)).trans (h.keep j hj hg),h.l1,by simp [h.l2],h.l3⟩
theorem WkS.cut (h:WkS w0 w wr sz g gk gf gl d v5 v6 n F L hs kids) (ha:WkA w0 w sz g gk gf gl bb) {i:Nat} (hi:i < hs.length) {a:Option Addr} {q c m:Nat} (hh:hs.getD i zH = ⟨a,q,c⟩) (hm:m ≤ q):WkS w0 w (wr.setCell ⟨gk,i,none⟩ (.slice a m c)) sz g gk gf gl d v5 v6 n F L (hs.set i ⟨a,m,c⟩) (kids.set i ((kids.getD i []).take m)):=by
 obtain ⟨p0,p1,p2,p3,p4,p5,p6,p7,p8⟩:=ha.a1
 exact ⟨below_set h.below (by omega),blk_far h.bk (by show g ≠ gk;omega) _,h.rf.far (p:=⟨gk,i,none⟩) (by show gf ≠ gk;omega) _,h.rl.far (p:=⟨gk,i,none⟩) (by show gl ≠ gk;omega) _,h.ld.cut hi hh hm,fun j hj hg=>(Below.heap_setCell _ _ _ _ (by show j ≠ gk;omega)).trans (h.keep j hj hg),h.l1,h.l2,by simp [h.l3]⟩
theorem WkS.grow (h:WkS w0 w wr sz g gk gf gl d v5 v6 n F L hs kids) (ha:WkA w0 w sz g gk gf gl bb) {row:Option Nat} (hg:wr.grownBy W row) (hr:∀ k,row = some k → bb ≤ k) (hbb:bb ≤ wr.heap.size):WkS w0 w W sz g gk gf gl d v5 v6 n F L hs kids:=by
 obtain ⟨p0,p1,p2,p3,p4,p5,p6,p7,p8⟩:=ha.a1
 have key:∀ k,k < bb → W.heap[k]? = wr.heap[k]?:=fun k hk=>hg.block k (by omega) (fun e=>by have:=hr k e.symm;omega)
 exact ⟨h.below.grown hg h.below.size (fun k hk=>by have:=hr k hk;omega),by rw [key g (by omega)];exact h.bk,by show W.heap[gf]? = _;rw [key gf (by omega)];exact h.rf,by show W.heap[gl]? = _;rw [key gl (by omega)];exact h.rl,h.ld.keep (fun k hk _=>key k (by omega)) (key gk (by omega)),fun j hj hg=>(key j (by omega)).trans (h.keep j hj hg),h.l1,h.l2,h.l3⟩
end
theorem addAt_all {rs:List (List Int)} {c:Nat} {x:Int} {P:Int → Prop} (h:∀ j,∀ y ∈ rs.getD j [],P y) (hx:P x) (j:Nat):∀ y ∈ (addAt rs c x).getD j [],P y:=by
 unfold addAt
 rw [List.getD_eq_getElem?_getD,List.getElem?_set]
 split
 ·rename_i e
  split
  ·intro y hy
   simp only [Option.getD_some,List.mem_append,List.mem_singleton] at hy
   rcases hy with hy | rfl
   ·exact h c y hy
   ·exact hx
  ·simp
 ·rw [← List.getD_eq_getElem?_getD];exact h j
theorem take_all {rs:List (List Int)} {c m:Nat} {P:Int → Prop} (h:∀ j,∀ y ∈ rs.getD j [],P y) (j:Nat):∀ y ∈ (rs.set c ((rs.getD c []).take m)).getD j [],P y:=by
 rw [List.getD_eq_getElem?_getD,List.getElem?_set]
 split
 ·split
  ·intro y hy
   exact h c y (List.mem_of_mem_take hy)
  ·simp
 ·rw [← List.getD_eq_getElem?_getD];exact h j
theorem getD_last {α:Type} {c z:α} {r:List α}:(c :: r).getD r.length z = (c :: r).getLast (by simp):=by
 rw [List.getLast_eq_getElem];simp [List.getD_eq_getElem?_getD]
theorem take_last {α:Type} {c:α} {r:List α}:(c :: r).take r.length = (c :: r).dropLast:=by
 rw [List.dropLast_eq_take];simp
theorem kidsF_step {T:List Int} {rs R:List (List Int)} {b k:Nat} (h:R = kidsF T rs b (k + 1)):R = kidsF T (if 0 ≤ T.getD b 0 then addAt rs (T.getD b 0).toNat (b:Int) else rs) (b + 1) k:=h
theorem walkF_nil {k:Nat} {n:Int} {F L:List Int} {kids:List (List Int)} {r:List Int × List Int} (h:walkF k n F L kids [] = some r):r = (F,L):=by
 cases k with
 | zero=>cases h
 | succ k=>rw [walkF] at h;injection h with h;exact h.symm
theorem walkF_pos {k:Nat} {n:Int} {F L:List Int} {kids:List (List Int)} {st:List Int} {r:List Int × List Int} (h:walkF k n F L kids st = some r):∃ k1,k = k1 + 1:=by
 cases k with
 | zero=>cases h
 | succ k=>exact ⟨k,rfl⟩
end Go.Proofs.Ytgbeliajhccndaa
end
