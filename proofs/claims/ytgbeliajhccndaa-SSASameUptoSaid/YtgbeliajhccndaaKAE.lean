/- Lemmas of this claim (YA,YB,YC). -/
import Derived.Test.YtgbeliajhccndaaKAD
import Derived.Test.YtgbeliajhccndaaKT
import Derived.Test.YtgbeliajhccndaaKM
section
set_option linter.unusedVariables false
set_option linter.unusedSimpArgs false
namespace Go.Proofs.Ytgbeliajhccndaa
open Go.RowKit Go.Proofs.YtgbeliajhccndaaW.PrintWords Go.Proofs.YtgbeliajhccndaaW.PrintLast Go.Proofs.YtgbeliajhccndaaW.PrintMore PP
structure RowS where
 n:Int
 a:Int
 b:Int
 c:Int
 t:Int
 ok:Bool
def rowI (op:Int):RowS:=
 if op = 1 then ⟨0,0,0,0,-2,true⟩
 else if 2 ≤ op ∧ op ≤ 12 then ⟨2,1,1,0,1,true⟩
 else if op = 13 ∨ op = 14 then ⟨2,0,0,0,2,true⟩
 else if op = 15 ∨ op = 16 then ⟨2,1,1,0,2,true⟩
 else if op = 17 ∨ op = 18 then ⟨1,1,0,0,1,true⟩
 else if op = 19 then ⟨1,2,0,0,2,true⟩
 else if op = 20 then ⟨1,3,0,0,1,true⟩
 else if op = 21 then ⟨2,3,1,0,1,true⟩
 else if op = 22 then ⟨3,3,1,1,0,true⟩
 else if op = 23 then ⟨1,1,0,0,3,true⟩
 else if op = 24 then ⟨0,0,0,0,1,true⟩
 else if op = 25 then ⟨-1,0,0,0,-2,true⟩
 else if op = 26 ∨ op = 28 ∨ op = 29 then ⟨1,1,0,0,0,true⟩
 else if op = 27 then ⟨1,2,0,0,0,true⟩
 else if op = 30 then ⟨2,1,1,0,0,true⟩
 else if op = 32 then ⟨-1,0,0,0,-1,true⟩
 else if op = 33 then ⟨0,0,0,0,-1,true⟩
 else ⟨0,0,0,0,0,false⟩
theorem within_all (l:List Int) (n:Nat) (hl:l.length ≤ 1000000000):∀ m i:Nat,i + m = l.length → Ev (fun k=>quernref9_within.l0 k l (n:Int) (i:Int)) ((l.drop i).all (inB n))
 | 0,i,e=>by
   rw [List.drop_of_length_le (by omega)]
   exact Ev.step (fun k=>by rw [quernref9_within.l0,if_neg (by omega)];rfl) (Ev.now _)
 | m + 1,i,e=>by
   have hil:i < l.length:=by omega
   have hr:rd l (i:Int) = l[i]:=by show l.getD i 0 = _;rw [List.getD_eq_getElem?_getD,List.getElem?_eq_getElem hil];rfl
   have hw:wrap64 ((i:Int) + 1) = ((i + 1:Nat):Int):=by unfold wrap64;omega
   rw [List.drop_eq_getElem_cons hil,List.all_cons]
   by_cases h0:l[i] < 0
   ·have:inB n l[i] = false:=by simp [inB];omega
    rw [this,Bool.false_and]
    exact Ev.step (fun k=>by rw [quernref9_within.l0,if_pos (by omega),if_pos (by omega),hr,if_pos h0]) (Ev.now _)
   ·by_cases h1:l[i] ≥ (n:Int)
    ·have:inB n l[i] = false:=by simp [inB];omega
     rw [this,Bool.false_and]
     exact Ev.step (fun k=>by rw [quernref9_within.l0,if_pos (by omega),if_pos (by omega),hr,if_neg h0,if_pos h1]) (Ev.now _)
    ·have:inB n l[i] = true:=by simp [inB];omega
     rw [this,Bool.true_and]
     exact Ev.step (fun k=>by rw [quernref9_within.l0,if_pos (by omega),if_pos (by omega),hr,if_neg h0,if_neg h1,hw]) (within_all l n hl m (i + 1) (by omega))
theorem within_any (l:List Int) (n:Nat) (hl:l.length ≤ 1000000000) (A:Option Addr) (c:Nat) (w:World) (hC:(Kd.int .i64).C w A l.length l) (hc:l.length ≤ c) :
 Calls Try.prog 72 #[.slice A l.length c,.int .i64 (n:Int)] w fun e w'=>e = .returned (.bool (l.all (inB n))) ∧ Hid (Below w.heap.size w w'):=by
 obtain ⟨K,hK⟩:=within_all l n hl l.length 0 (by omega)
 refine (quernref9_within.calls K A c l n _ w hC hc (hK K (Nat.le_refl _))).mono ?_
 rintro e w' ⟨h,q,hq⟩
 exact ⟨h,Lib.hid (by rw [hq];exact pw_below_drewN (Below.refl _ _) q)⟩
theorem five_row {W:World} {g:Nat} {z0 z1 z2 z3 z4 a b c d e:Value} {t:TypeId} (h:W.heap[g]? = some (.cells #[z0,z1,z2,z3,z4] t (0,0))) :
 (((((W.setCell ⟨g,0,none⟩ a).setCell ⟨g,1,none⟩ b).setCell ⟨g,2,none⟩ c).setCell ⟨g,3,none⟩ d).setCell ⟨g,4,none⟩ e).heap[g]? = some (.cells #[a,b,c,d,e] t (0,0)):=
 (blk_set ((blk_set ((blk_set ((blk_set ((blk_set h 0 a).trans rfl) 1 b).trans rfl) 2 c).trans rfl) 3 d).trans rfl) 4 e).trans rfl
theorem row_results {fn:Func} {tmps:Array Value} {W:World} {g:Nat} {b:Bool} {cs:Array Value} (hr:fn.results = #[.cell 2 122,.tmp 3]) (hp:tmps.getD 2 undef = .pointer (some ⟨g,0,none⟩)) (he:tmps.getD 3 undef = .bool b)
 (hg:W.heap[g]? = some (.cells cs 122 (0,0))) (hc:cs.size = 5):(results fn tmps).run Try.prog W = .ok (.tuple #[.agg cs,.bool b]) W:=by
 have h:=results_list (P:=Try.prog) (tmps:=tmps) (w:=W) (fn:=fn) (rs:=[.cell 2 122,.tmp 3]) (vs:=[.agg cs,tmps.getD 3 undef]) hr (by simp) (.cell g 122 cs (0,0) _ hp hg Try.underlying122 rfl (by rw [hc];kernel_rfl) (.tmp .nil))
 rw [he] at h
 exact h
theorem row_end {w w1:World} {g:Nat} {z0 z1 z2 z3 z4 a b c d e:Value} (hb:Below w.heap.size w w1) (hg:w1.heap[g]? = some (.cells #[z0,z1,z2,z3,z4] 122 (0,0))) (hl:w.heap.size ≤ g) :
 Below w.heap.size w (((((w1.setCell ⟨g,0,none⟩ a).setCell ⟨g,1,none⟩ b).setCell ⟨g,2,none⟩ c).setCell ⟨g,3,none⟩ d).setCell ⟨g,4,none⟩ e):=
 below_set (below_set (below_set (below_set (below_set hb hl) hl) hl) hl) hl
set_option maxRecDepth 100000 in
set_option maxHeartbeats 4000000 in
theorem RowOf_any (op:Int) (w:World):Calls Try.prog 86 #[.int .i64 op] w fun e W=>e = .returned (.tuple #[.agg #[.int .i64 (rowI op).n,.int .i64 (rowI op).a,.int .i64 (rowI op).b,.int .i64 (rowI op).c,.int .i64 (rowI op).t],.bool (rowI op).ok]) ∧ Hid (Below w.heap.size w W):=by
 go_enter Try.func86,Try.ntmps86
 go_upto_region 1 with (fail)
 obtain ⟨w1,hw1⟩:∃ w1,w1 = w.alloc (.cells #[.int .i64 0,.int .i64 0,.int .i64 0,.int .i64 0,.int .i64 0] 122):=⟨_,rfl⟩
 obtain ⟨g,hg⟩:∃ g,g = w.heap.size:=⟨_,rfl⟩
 have hB:Below w.heap.size w w1:=by rw [hw1];exact below_alloc (Below.refl _ _) _
 have hF:w1.heap[g]? = some (.cells #[.int .i64 0,.int .i64 0,.int .i64 0,.int .i64 0,.int .i64 0] 122 (0,0)):=by rw [hw1,hg];exact blk_new w _
 have hG:w.heap.size ≤ g:=by omega
 rw [← hg,← hw1]
 have HB:=Lib.hid hB
 have HF:=Lib.hid hF
 have HG:=Lib.hid hG
 obtain ⟨x0,x1,x2,x3,x4⟩:=S5_blk hF
 obtain ⟨u0,u1,u2,u3,u4⟩:=S5_fz hF
 clear hw1 hg hB hF hG
 by_cases hr:op = 1 ∨ (2 ≤ op ∧ op ≤ 33)
 ·rcases hr with rfl | ⟨h2,h33⟩
  ·(go_wp2_with (fail);all_goals (refine bodyPost_ret (by exact row_results Try.results86 rfl rfl (five_row HF.out) rfl) rfl ⟨rfl,Lib.hid (row_end HB.out HF.out HG.out)⟩))
  ·obtain ⟨k,rfl⟩:∃ k:Nat,op = (k:Int):=⟨op.toNat,by omega⟩
   have:k = 2 ∨ k = 3 ∨ k = 4 ∨ k = 5 ∨ k = 6 ∨ k = 7 ∨ k = 8 ∨ k = 9 ∨ k = 10 ∨ k = 11 ∨ k = 12 ∨ k = 13 ∨ k = 14 ∨ k = 15 ∨ k = 16 ∨ k = 17 ∨ k = 18 ∨ k = 19 ∨ k = 20 ∨ k = 21 ∨ k = 22 ∨ k = 23 ∨ k = 24 ∨ k = 25 ∨ k = 26 ∨ k = 27 ∨ k = 28 ∨ k = 29 ∨ k = 30 ∨ k = 31 ∨ k = 32 ∨ k = 33:=by omega
   clear h2 h33
   rcases this with rfl | rfl | rfl | rfl | rfl | rfl | rfl | rfl | rfl | rfl | rfl | rfl | rfl | rfl | rfl | rfl | rfl | rfl | rfl | rfl | rfl | rfl | rfl | rfl | rfl | rfl | rfl | rfl | rfl | rfl | rfl | rfl
   all_goals (go_wp2_with (fail);all_goals (refine bodyPost_ret (by exact row_results Try.results86 rfl rfl (five_row HF.out) rfl) rfl ⟨rfl,Lib.hid (row_end HB.out HF.out HG.out)⟩))
 ·have hrow:rowI op = ⟨0,0,0,0,0,false⟩:=by
   unfold rowI
   repeat rw [if_neg (by omega)]
  have n1:(op == 1) = false:=by simp;omega
  have n13:(op == 13) = false:=by simp;omega
  have n14:(op == 14) = false:=by simp;omega
  have n15:(op == 15) = false:=by simp;omega
  have n16:(op == 16) = false:=by simp;omega
  have n17:(op == 17) = false:=by simp;omega
  have n18:(op == 18) = false:=by simp;omega
  have n19:(op == 19) = false:=by simp;omega
  have n20:(op == 20) = false:=by simp;omega
  have n21:(op == 21) = false:=by simp;omega
  have n22:(op == 22) = false:=by simp;omega
  have n23:(op == 23) = false:=by simp;omega
  have n24:(op == 24) = false:=by simp;omega
  have n25:(op == 25) = false:=by simp;omega
  have n26:(op == 26) = false:=by simp;omega
  have n27:(op == 27) = false:=by simp;omega
  have n28:(op == 28) = false:=by simp;omega
  have n29:(op == 29) = false:=by simp;omega
  have n30:(op == 30) = false:=by simp;omega
  have n32:(op == 32) = false:=by simp;omega
  have n33:(op == 33) = false:=by simp;omega
  have HROW:=Lib.hid hrow
  clear hrow
  by_cases h2:2 ≤ op
  all_goals
   first | (have d1:decide (op ≥ 2) = true:=decide_eq_true (by omega);have d2:decide (2 ≤ op) = true:=decide_eq_true (by omega);have d3:decide (op ≤ 12) = false:=decide_eq_false (by omega)) | (have d1:decide (op ≥ 2) = false:=decide_eq_false (by omega);have d2:decide (2 ≤ op) = false:=decide_eq_false (by omega))
   clear hr h2
   go_wp2_with (fail)
   all_goals
    refine bodyPost_ret (v:=.tuple #[.agg #[.int .i64 0,.int .i64 0,.int .i64 0,.int .i64 0,.int .i64 0],.bool false]) (by exact row_results Try.results86 rfl rfl (five_row HF.out) rfl) rfl ⟨by rw [HROW.out],Lib.hid (row_end HB.out HF.out HG.out)⟩
end Go.Proofs.Ytgbeliajhccndaa
end
section
set_option linter.unusedVariables false
set_option linter.unusedSimpArgs false
namespace Go.Proofs.Ytgbeliajhccndaa
open Go.RowKit Go.Proofs.YtgbeliajhccndaaW.PrintWords Go.Proofs.YtgbeliajhccndaaW.PrintLast Go.Proofs.YtgbeliajhccndaaW.PrintMore PP
structure FA (w:World) (f:S38) (A1:Option Addr) (c1:Nat) (A3:Option Addr) (c3:Nat) (A4:Option Addr) (c4:Nat):Prop where
 l1:f.f1.length ≤ c1
 r1:(Kd.int .i64).C w A1 f.f1.length f.f1
 l3:f.f3.length ≤ c3
 r3:k42.C w A3 f.f3.length f.f3
 l4:f.f4.length ≤ c4
 r4:k46.C w A4 f.f4.length f.f4
theorem FA.below {w W:World} {f:S38} {A1 A3 A4:Option Addr} {c1 c3 c4:Nat} (h:FA w f A1 c1 A3 c3 A4 c4) (hb:Below w.heap.size w W):FA W f A1 c1 A3 c3 A4 c4:=
 ⟨h.l1,Kd.C_below h.r1 hb,h.l3,Kd.C_below h.r3 hb,h.l4,Kd.C_below h.r4 hb⟩
def tailB (fs:List S38) (v:S42):Bool:=
 if v.f0 = 1 ∨ v.f0 = 33 then true
 else if v.f0 = 25 then decide (0 ≤ v.f2) && decide (v.f2 < (fs.length:Int)) && (v.f3.length:Int) == ((rd_T38 fs v.f2).f1.length:Int)
 else if v.f0 = 28 ∨ v.f0 = 29 ∨ v.f0 = 30 then decide (1 ≤ v.f2) && decide (v.f2 ≤ 5)
 else v.f2 == 0
theorem value_row (fs:List S38) (v:S42):valueB fs v = (decide (0 ≤ v.f1) && decide (v.f1 ≤ 3) && ((rowI v.f0).ok && (decide ((rowI v.f0).n < 0) || (v.f3.length:Int) == (rowI v.f0).n) && tailB fs v)):=by
 unfold valueB tailB
 congr 1
 generalize (v.f3.length:Int) = m
 obtain ⟨op,ty,im,ar⟩:=v
 dsimp only
 by_cases hr:op = 1 ∨ (2 ≤ op ∧ op ≤ 33)
 ·rcases hr with rfl | ⟨h2,h33⟩
  ·simp [rowI]
  ·obtain ⟨k,rfl⟩:∃ k:Nat,op = (k:Int):=⟨op.toNat,by omega⟩
   have:k = 2 ∨ k = 3 ∨ k = 4 ∨ k = 5 ∨ k = 6 ∨ k = 7 ∨ k = 8 ∨ k = 9 ∨ k = 10 ∨ k = 11 ∨ k = 12 ∨ k = 13 ∨ k = 14 ∨ k = 15 ∨ k = 16 ∨ k = 17 ∨ k = 18 ∨ k = 19 ∨ k = 20 ∨ k = 21 ∨ k = 22 ∨ k = 23 ∨ k = 24 ∨ k = 25 ∨ k = 26 ∨ k = 27 ∨ k = 28 ∨ k = 29 ∨ k = 30 ∨ k = 31 ∨ k = 32 ∨ k = 33:=by omega
   clear h2 h33
   rcases this with rfl | rfl | rfl | rfl | rfl | rfl | rfl | rfl | rfl | rfl | rfl | rfl | rfl | rfl | rfl | rfl | rfl | rfl | rfl | rfl | rfl | rfl | rfl | rfl | rfl | rfl | rfl | rfl | rfl | rfl | rfl | rfl
   all_goals simp [rowI,operandsI,Bool.and_assoc]
 ·have h1:rowI op = ⟨0,0,0,0,0,false⟩:=by unfold rowI;repeat rw [if_neg (by omega)]
  have h2:operandsI op = -1:=by unfold operandsI;repeat rw [if_neg (by omega)]
  rw [h1,h2]
  repeat rw [if_neg (by omega)]
  rfl
theorem box3_below {w:World} (o1 o2 o3:Obj):Below w.heap.size w (((w.alloc o1).alloc o2).alloc o3):=below_alloc (below_alloc (below_alloc (Below.refl _ _) o1) o2) o3
theorem box3_blk (w:World) (o1 o2 o3:Obj):(((w.alloc o1).alloc o2).alloc o3).heap[w.heap.size]? = some o1 ∧ (((w.alloc o1).alloc o2).alloc o3).heap[w.heap.size + 1]? = some o2 ∧ (((w.alloc o1).alloc o2).alloc o3).heap[w.heap.size + 1 + 1]? = some o3:=by
 have h1:=blk_new w o1
 have h2:=blk_new (w.alloc o1) o2
 have h3:=blk_new ((w.alloc o1).alloc o2) o3
 rw [size_alloc',size_alloc'] at h3
 rw [size_alloc'] at h2
 exact ⟨blkB (below_alloc (below_alloc (Below.refl _ _) o2) o3) h1,blkB (below_alloc (Below.refl _ _) o3) h2,h3⟩
set_option maxRecDepth 100000 in
set_option maxHeartbeats 4000000 in
theorem rformedValue_any (fs:List S38) (mn:Int) (A:Option Addr) (c:Nat) (f:S38) (A1:Option Addr) (c1:Nat) (A3:Option Addr) (c3:Nat) (A4:Option Addr) (c4:Nat) (v:S42) (A5:Option Addr) (c5:Nat) (w:World)
 (hfs:k38.C w A fs.length fs) (hc:fs.length ≤ c) (hv:v.f3.length ≤ c5) (hV:(Kd.int .i64).C w A5 v.f3.length v.f3) (hl:v.f3.length ≤ 1000000000) :
 Calls Try.prog 73 #[.agg #[.slice A fs.length c,.int .i64 mn],.agg #[.string f.f0,.slice A1 f.f1.length c1,.int .i64 f.f2,.slice A3 f.f3.length c3,.slice A4 f.f4.length c4],.agg #[.int .i64 v.f0,.int .i64 v.f1,.int .i64 v.f2,.slice A5 v.f3.length c5]] w fun e W=>e = .returned (.bool (qB fs f v)) ∧ Hid (Below w.heap.size w W):=by
 have hq:qB fs f v = (v.f3.all (inB f.f3.length) && (decide (0 ≤ v.f1) && decide (v.f1 ≤ 3) && ((rowI v.f0).ok && (decide ((rowI v.f0).n < 0) || (v.f3.length:Int) == (rowI v.f0).n) && tailB fs v))):=by unfold qB;rw [value_row]
 have hro:=RowOf_any v.f0
 obtain ⟨R,hR⟩:∃ R,R = rowI v.f0:=⟨_,rfl⟩
 rw [← hR] at hq hro
 obtain ⟨bw,hbw⟩:∃ bw,bw = v.f3.all (inB f.f3.length):=⟨_,rfl⟩
 rw [← hbw] at hq
 have HQ:=Lib.hid hq
 have HRO:=Lib.hid hro
 have HFS:=Lib.hid hfs
 have HWI:Hid (∀ W:World,Below w.heap.size w W → Calls Try.prog 72 #[.slice A5 v.f3.length c5,.int .i64 (f.f3.length:Int)] W fun e w'=>e = .returned (.bool bw) ∧ Hid (Below W.heap.size W w')):=Lib.hid (fun W hW=>by rw [hbw];exact within_any v.f3 _ hl A5 c5 W (Kd.C_below hV hW) hv)
 clear hq hro hR hbw hfs hV hv
 obtain ⟨n,a,b,cc,t,ok⟩:=R
 go_enter Try.func73,Try.ntmps73
 go_upto_region 1 with (fail)
 obtain ⟨w1,hw1⟩:∃ w1,w1 = (((w.alloc (.cells #[.slice A fs.length c,.int .i64 mn] 24)).alloc (.cells #[.string f.f0,.slice A1 f.f1.length c1,.int .i64 f.f2,.slice A3 f.f3.length c3,.slice A4 f.f4.length c4] 38)).alloc (.cells #[.int .i64 v.f0,.int .i64 v.f1,.int .i64 v.f2,.slice A5 v.f3.length c5] 42)):=⟨_,rfl⟩
 obtain ⟨g3,hg3⟩:∃ g,g = w.heap.size:=⟨_,rfl⟩
 obtain ⟨g4,hg4⟩:∃ g,g = w.heap.size + 1:=⟨_,rfl⟩
 obtain ⟨g5,hg5⟩:∃ g,g = w.heap.size + 1 + 1:=⟨_,rfl⟩
 have hbx:=box3_blk w (.cells #[.slice A fs.length c,.int .i64 mn] 24) (.cells #[.string f.f0,.slice A1 f.f1.length c1,.int .i64 f.f2,.slice A3 f.f3.length c3,.slice A4 f.f4.length c4] 38) (.cells #[.int .i64 v.f0,.int .i64 v.f1,.int .i64 v.f2,.slice A5 v.f3.length c5] 42)
 have hB:Below w.heap.size w w1:=by rw [hw1];exact box3_below _ _ _
 rw [← hg5,← hg4,← hg3,← hw1] at hbx
 rw [← hg5,← hg4,← hg3,← hw1]
 have HBX:=Lib.hid hbx
 have HB:=Lib.hid hB
 have z0:=(S4_blk hbx.2.2).1
 clear hw1 hg3 hg4 hg5 hbx hB
 go_upto_region 2 with (first | (go_at_call 86;with_reducible refine Calls.mono (HRO.out _) ?_;rintro e w2 ⟨rfl,HB2⟩) | (go_at_call 86;refine stop_intro ?_))
 obtain ⟨w3,hw3⟩:∃ w3,w3 = w2.alloc (.cells #[.int .i64 n,.int .i64 a,.int .i64 b,.int .i64 cc,.int .i64 t] 122):=⟨_,rfl⟩
 obtain ⟨g7,hg7⟩:∃ g,g = w2.heap.size:=⟨_,rfl⟩
 have hB3:Below w2.heap.size w2 w3:=by rw [hw3];exact below_alloc (Below.refl _ _) _
 have hF3:w3.heap[g7]? = some (.cells #[.int .i64 n,.int .i64 a,.int .i64 b,.int .i64 cc,.int .i64 t] 122 (0,0)):=by rw [hw3,hg7];exact blk_new w2 _
 rw [← hg7,← hw3]
 have hB13:=below_then HB2.out HB2.out.size hB3
 have HBc:=Lib.hid (below_then HB.out HB.out.size hB13)
 have hb3:=blkB hB13 HBX.out.1
 have hb4:=blkB hB13 HBX.out.2.1
 have hb5:=blkB hB13 HBX.out.2.2
 have HBK:=Lib.hid (And.intro hb3 (And.intro hb4 (And.intro hb5 hF3)))
 obtain ⟨s0,s1⟩:=S2_blk hb3
 obtain ⟨y0,y1,y2,y3,y4⟩:=S5_blk hb4
 obtain ⟨x0,x1,x2,x3⟩:=S4_blk hb5
 obtain ⟨q0,q1,q2,q3,q4⟩:=S5_blk hF3
 clear hw3 hg7 hB3 hF3 hB13 hb3 hb4 hb5 HB2 HBX z0
 cases ok with
 | false=>
   go_wp2_with (fail)
   go_ret
   exact ⟨ret_bool (by rw [HQ.out];simp),HBc⟩
 | true=>
   obtain ⟨bad,hbad⟩:∃ bad,bad = !(bw && (decide (0 ≤ v.f1) && decide (v.f1 ≤ 3)) && (decide (n < 0) || (v.f3.length:Int) == n)):=⟨_,rfl⟩
   have HBAD:=Lib.hid hbad
   clear hbad
   have HX:Hid (qB fs f v = ((!bad) && tailB fs v)):=Lib.hid (by
    rw [HQ.out,HBAD.out]
    generalize decide (0 ≤ v.f1) = p1
    generalize decide (v.f1 ≤ 3) = p2
    generalize decide (n < 0) = p3
    generalize ((v.f3.length:Int) == n) = p4
    generalize tailB fs v = p5
    cases bw <;> cases p1 <;> cases p2 <;> cases p3 <;> cases p4 <;> cases p5 <;> rfl)
   go_upto_region 2 with (fail)
   go_cut [48] (fun v wx=>v = .bool bad ∧ Hid (Below w3.heap.size w3 wx))
   case first=>
    cases bw with
    | false=>
      have HP:Hid (true = bad):=Lib.hid (by rw [HBAD.out];simp)
      go_wp2_with (first | (go_at_call 72;with_reducible refine Calls.mono (HWI.out _ HBc.out) ?_;rintro e w4 ⟨rfl,HB4⟩;have x0:=cellB HB4.out x0;have x1:=cellB HB4.out x1;have x2:=cellB HB4.out x2;have x3:=cellB HB4.out x3;have q0:=cellB HB4.out q0;have y3:=cellB HB4.out y3) | (go_at_call 72;refine stop_intro ?_))
      go_meet
      exact ⟨by rw [HP.out],HB4⟩
    | true=>
      by_cases h0:v.f1 < 0
      ·have d0:decide (v.f1 < 0) = true:=decide_eq_true h0
       have HP:Hid (true = bad):=Lib.hid (by rw [HBAD.out,decide_eq_false (show ¬ 0 ≤ v.f1 by omega)];simp)
       clear h0
       go_wp2_with (first | (go_at_call 72;with_reducible refine Calls.mono (HWI.out _ HBc.out) ?_;rintro e w4 ⟨rfl,HB4⟩;have x0:=cellB HB4.out x0;have x1:=cellB HB4.out x1;have x2:=cellB HB4.out x2;have x3:=cellB HB4.out x3;have q0:=cellB HB4.out q0;have y3:=cellB HB4.out y3) | (go_at_call 72;refine stop_intro ?_))
       go_meet
       exact ⟨by rw [HP.out],HB4⟩
      ·have d0:decide (v.f1 < 0) = false:=decide_eq_false h0
       by_cases h3:v.f1 > 3
       ·have d3:decide (v.f1 > 3) = true:=decide_eq_true h3
        have d4:decide (3 < v.f1) = true:=decide_eq_true h3
        have HP:Hid (true = bad):=Lib.hid (by rw [HBAD.out,decide_eq_false (show ¬ v.f1 ≤ 3 by omega)];simp)
        clear h0 h3
        go_wp2_with (first | (go_at_call 72;with_reducible refine Calls.mono (HWI.out _ HBc.out) ?_;rintro e w4 ⟨rfl,HB4⟩;have x0:=cellB HB4.out x0;have x1:=cellB HB4.out x1;have x2:=cellB HB4.out x2;have x3:=cellB HB4.out x3;have q0:=cellB HB4.out q0;have y3:=cellB HB4.out y3) | (go_at_call 72;refine stop_intro ?_))
        go_meet
        exact ⟨by rw [HP.out],HB4⟩
       ·have d3:decide (v.f1 > 3) = false:=decide_eq_false h3
        have d4:decide (3 < v.f1) = false:=decide_eq_false h3
        have HPT:Hid ((decide (0 ≤ v.f1) && decide (v.f1 ≤ 3)) = true):=Lib.hid (by simp;omega)
        clear h0 h3
        by_cases hn:n < 0
        ·have e0:decide (n ≥ 0) = false:=decide_eq_false (by omega)
         have e1:decide (0 ≤ n) = false:=decide_eq_false (by omega)
         have HP:Hid (false = bad):=Lib.hid (by rw [HBAD.out,HPT.out,decide_eq_true hn];simp)
         clear hn
         go_wp2_with (first | (go_at_call 72;with_reducible refine Calls.mono (HWI.out _ HBc.out) ?_;rintro e w4 ⟨rfl,HB4⟩;have x0:=cellB HB4.out x0;have x1:=cellB HB4.out x1;have x2:=cellB HB4.out x2;have x3:=cellB HB4.out x3;have q0:=cellB HB4.out q0;have y3:=cellB HB4.out y3) | (go_at_call 72;refine stop_intro ?_))
         go_meet
         exact ⟨by rw [HP.out],HB4⟩
        ·have e0:decide (n ≥ 0) = true:=decide_eq_true (by omega)
         have e1:decide (0 ≤ n) = true:=decide_eq_true (by omega)
         obtain ⟨q,hq⟩:∃ q,q = ((v.f3.length:Int) == n):=⟨_,rfl⟩
         have q5:((v.f3.length:Int) != n) = !q:=by rw [hq];rfl
         have HP:Hid ((!q) = bad):=Lib.hid (by rw [HBAD.out,HPT.out,decide_eq_false hn,hq];simp)
         clear hn hq
         go_wp2_with (first | (go_at_call 72;with_reducible refine Calls.mono (HWI.out _ HBc.out) ?_;rintro e w4 ⟨rfl,HB4⟩;have x0:=cellB HB4.out x0;have x1:=cellB HB4.out x1;have x2:=cellB HB4.out x2;have x3:=cellB HB4.out x3;have q0:=cellB HB4.out q0;have y3:=cellB HB4.out y3) | (go_at_call 72;refine stop_intro ?_))
         go_meet
         exact ⟨by rw [HP.out],HB4⟩
   case rest=>
    obtain ⟨rfl,HBx⟩:=hcut
    have HBd:=Lib.hid (below_then HBc.out HBc.out.size HBx.out)
    have s0:=cellB HBx.out s0
    have x0:=cellB HBx.out x0
    have x2:=cellB HBx.out x2
    have x3:=cellB HBx.out x3
    clear HBAD HBx HBK HQ HWI HRO y0 y1 y2 y3 y4 q0 q1 q2 q3 q4 x1 s1
    cases bad with
    | true=>
      go_wp2_with (fail)
      go_ret
      exact ⟨ret_bool (by rw [HX.out];rfl),HBd⟩
    | false=>
      have HY:Hid (qB fs f v = tailB fs v):=Lib.hid (by rw [HX.out];rfl)
      clear HX
      by_cases k1:v.f0 = 1
      ·have e1:(v.f0 == 1) = true:=by simp [k1]
       have HT:Hid (true = qB fs f v):=Lib.hid (by rw [HY.out];unfold tailB;rw [if_pos (.inl k1)])
       clear k1
       go_wp2_with (fail)
       go_ret
       exact ⟨ret_bool HT.out,HBd⟩
      have e1:(v.f0 == 1) = false:=by simp [k1]
      by_cases k33:v.f0 = 33
      ·have e2:(v.f0 == 33) = true:=by simp [k33]
       have HT:Hid (true = qB fs f v):=Lib.hid (by rw [HY.out];unfold tailB;rw [if_pos (.inr k33)])
       clear k1 k33
       go_wp2_with (fail)
       go_ret
       exact ⟨ret_bool HT.out,HBd⟩
      have e2:(v.f0 == 33) = false:=by simp [k33]
      by_cases k25:v.f0 = 25
      ·have e3:(v.f0 == 25) = true:=by simp [k25]
       have HT:Hid (qB fs f v = (decide (0 ≤ v.f2) && decide (v.f2 < (fs.length:Int)) && (v.f3.length:Int) == ((rd_T38 fs v.f2).f1.length:Int))):=Lib.hid (by rw [HY.out];unfold tailB;rw [if_neg (by omega),if_pos k25])
       clear k1 k33 k25 HY
       by_cases h0:0 ≤ v.f2
       ·have d0:decide (v.f2 ≥ 0) = true:=decide_eq_true h0
        have d1:decide (0 ≤ v.f2) = true:=decide_eq_true h0
        by_cases h1:v.f2 < (fs.length:Int)
        ·have d2:decide (v.f2 < (fs.length:Int)) = true:=decide_eq_true h1
         obtain ⟨ad,B1,d1',B3,d3',B4,d4',eA,z0,z1,z2,z3,z4,l1,i1,l3,i3,l4,i4⟩:=at_T38 (Kd.C_below HFS.out HBd.out) v.f2 h0 h1
         subst eA
         obtain ⟨q,hq⟩:∃ q,q = ((v.f3.length:Int) == ((rd_T38 fs v.f2).f1.length:Int)):=⟨_,rfl⟩
         have HP:Hid (q = qB fs f v):=Lib.hid (by rw [HT.out,decide_eq_true h0,decide_eq_true h1,hq];simp)
         have hq1:((v.f3.length:Int) == ((rd_T38 fs v.f2).f1.length:Int)) = q:=hq.symm
         have h0t:=eq_true h0
         have h1t:=eq_true h1
         clear hq l1 i1 l3 i3 l4 i4 z0 z2 z3 z4 h0 h1 HT
         go_upto_region 9 with (fail)
         go_quiet (fail)
         all_goals
          go_wp2_with (fail)
          go_ret
          exact ⟨ret_bool HP.out,Lib.hid (pw_below_drewN HBd.out _)⟩
        ·have d2:decide (v.f2 < (fs.length:Int)) = false:=decide_eq_false h1
         have HP:Hid (false = qB fs f v):=Lib.hid (by rw [HT.out,decide_eq_false h1];simp)
         clear h0 h1 HT
         go_upto_region 9 with (fail)
         go_quiet (fail)
         all_goals
          go_wp2_with (fail)
          go_ret
          exact ⟨ret_bool HP.out,Lib.hid (pw_below_drewN HBd.out _)⟩
       ·have d0:decide (v.f2 ≥ 0) = false:=decide_eq_false h0
        have d1:decide (0 ≤ v.f2) = false:=decide_eq_false h0
        have HP:Hid (false = qB fs f v):=Lib.hid (by rw [HT.out,decide_eq_false h0];simp)
        clear h0 HT
        go_upto_region 9 with (fail)
        go_quiet (fail)
        all_goals
         go_wp2_with (fail)
         go_ret
         exact ⟨ret_bool HP.out,Lib.hid (pw_below_drewN HBd.out _)⟩
      have e3:(v.f0 == 25) = false:=by simp [k25]
      by_cases k28:v.f0 = 28 ∨ v.f0 = 29 ∨ v.f0 = 30
      ·have HT:Hid (qB fs f v = (decide (1 ≤ v.f2) && decide (v.f2 ≤ 5))):=Lib.hid (by rw [HY.out];unfold tailB;rw [if_neg (by omega),if_neg k25,if_pos k28])
       obtain ⟨q1,hq1⟩:∃ q,decide (v.f2 ≥ 1) = q:=⟨_,rfl⟩
       have hq1':decide (1 ≤ v.f2) = q1:=hq1
       obtain ⟨q2,hq2⟩:∃ q,decide (v.f2 ≤ 5) = q:=⟨_,rfl⟩
       rw [hq1',hq2] at HT
       have e28:(v.f0 == 28) = true ∨ (v.f0 == 28) = false ∧ (v.f0 == 29) = true ∨ (v.f0 == 28) = false ∧ (v.f0 == 29) = false ∧ (v.f0 == 30) = true:=by simp;omega
       clear k1 k33 k25 k28 HY
       rcases e28 with e4 | ⟨e4,e5⟩ | ⟨e4,e5,e6⟩
       all_goals
        cases q1
        all_goals
         go_wp2_with (fail)
         go_ret
         exact ⟨ret_bool (by rw [HT.out];simp),HBd⟩
      have e28:(v.f0 == 28) = false ∧ (v.f0 == 29) = false ∧ (v.f0 == 30) = false:=by simp;omega
      obtain ⟨e4,e5,e6⟩:=e28
      have HT:Hid ((v.f2 == 0) = qB fs f v):=Lib.hid (by rw [HY.out];unfold tailB;rw [if_neg (by omega),if_neg k25,if_neg k28])
      clear k1 k33 k25 k28 HY
      go_wp2_with (fail)
      go_ret
      exact ⟨ret_bool HT.out,HBd⟩
end Go.Proofs.Ytgbeliajhccndaa
end
section
set_option linter.unusedVariables false
set_option linter.unusedSimpArgs false
namespace Go.Proofs.Ytgbeliajhccndaa
open Go.RowKit Go.Proofs.YtgbeliajhccndaaW.PrintWords Go.Proofs.YtgbeliajhccndaaW.PrintLast Go.Proofs.YtgbeliajhccndaaW.PrintMore PP
theorem within_dr (l:List Int) (n:Nat) (hl:l.length ≤ 1000000000) (A:Option Addr) (c:Nat) (w:World) (hC:(Kd.int .i64).C w A l.length l) (hc:l.length ≤ c) :
 Calls Try.prog 72 #[.slice A l.length c,.int .i64 (n:Int)] w fun e w'=>e = .returned (.bool (l.all (inB n))) ∧ ∃ q,w' = w.drewN q:=by
 obtain ⟨K,hK⟩:=within_all l n hl l.length 0 (by omega)
 exact (quernref9_within.calls K A c l n _ w hC hc (hK K (Nat.le_refl _))).mono (fun e w' ⟨h,q,hq⟩=>⟨h,q,hq⟩)
theorem S3b {w:World} {g:Nat} {a b c:Value} {t:Nat} (h:w.heap[g]? = some (.cells #[a,b,c] t (0,0))):w.cell? ⟨g,0,none⟩ = some a ∧ w.cell? ⟨g,1,none⟩ = some b ∧ w.cell? ⟨g,2,none⟩ = some c:=
 ⟨(blk_cell h 0).trans rfl,(blk_cell h 1).trans rfl,(blk_cell h 2).trans rfl⟩
def rtermB (f:S38) (t:S44):Bool:=t.f2.all (inB f.f4.length) && termB f t
theorem term_k0 {f:S38} {k v:Int} {l:List Int} (h:k < 1 ∨ k > 4):termB f ⟨k,v,l⟩ = false:=by
 unfold termB
 dsimp only
 rw [if_neg (by omega),if_neg (by omega),if_neg (by omega),if_neg (by omega)]
def wayI (k:Int):Int:=if k = 1 then 1 else if k = 2 then 2 else 0
def valI (f:S38) (k v:Int):Bool:=if k = 1 ∨ k = 3 ∧ f.f2 = 0 then v == -1 else inB f.f3.length v
theorem term_row {f:S38} {k v:Int} {l:List Int} (h:1 ≤ k ∧ k ≤ 4):termB f ⟨k,v,l⟩ = (((l.length:Int) == wayI k) && valI f k v):=by
 have:k = 1 ∨ k = 2 ∨ k = 3 ∨ k = 4:=by omega
 by_cases hr:f.f2 = 0
 all_goals rcases this with rfl | rfl | rfl | rfl <;> simp [termB,wayI,valI,hr,Bool.and_comm]
set_option maxRecDepth 100000 in
set_option maxHeartbeats 4000000 in
theorem rformedTerm_any (f:S38) (A1:Option Addr) (c1:Nat) (A3:Option Addr) (c3:Nat) (A4:Option Addr) (c4:Nat) (t:S44) (A5:Option Addr) (c5:Nat) (w:World)
 (hv:t.f2.length ≤ c5) (hV:(Kd.int .i64).C w A5 t.f2.length t.f2) (hl:t.f2.length ≤ 1000000000) :
 Calls Try.prog 74 #[.agg #[.string f.f0,.slice A1 f.f1.length c1,.int .i64 f.f2,.slice A3 f.f3.length c3,.slice A4 f.f4.length c4],.agg #[.int .i64 t.f0,.int .i64 t.f1,.slice A5 t.f2.length c5]] w fun e W=>e = .returned (.bool (rtermB f t)) ∧ Hid (Below w.heap.size w W):=by
 obtain ⟨k,v,l⟩:=t
 dsimp only at hv hV hl ⊢
 obtain ⟨bw,hbw⟩:∃ bw,bw = l.all (inB f.f4.length):=⟨_,rfl⟩
 have hrt:rtermB f ⟨k,v,l⟩ = (bw && termB f ⟨k,v,l⟩):=by rw [hbw];rfl
 have HRT:=Lib.hid hrt
 have HWI:Hid (∀ W:World,Below w.heap.size w W → Calls Try.prog 72 #[.slice A5 l.length c5,.int .i64 (f.f4.length:Int)] W fun e w'=>e = .returned (.bool bw) ∧ ∃ q,w' = W.drewN q):=Lib.hid (fun W hW=>by rw [hbw];exact within_dr l _ hl A5 c5 W (Kd.C_below hV hW) hv)
 clear hbw hV hv hrt
 go_enter Try.func74,Try.ntmps74
 go_upto_region 2 with (fail)
 obtain ⟨w1,hw1⟩:∃ w1,w1 = (((w.alloc (.cells #[.string f.f0,.slice A1 f.f1.length c1,.int .i64 f.f2,.slice A3 f.f3.length c3,.slice A4 f.f4.length c4] 38)).alloc (.cells #[.int .i64 k,.int .i64 v,.slice A5 l.length c5] 44)).alloc (.cells #[.int .i64 0,.int .i64 1,.int .i64 2,.int .i64 0,.int .i64 0] 3)):=⟨_,rfl⟩
 obtain ⟨g2,hg2⟩:∃ g,g = w.heap.size:=⟨_,rfl⟩
 obtain ⟨g3,hg3⟩:∃ g,g = w.heap.size + 1:=⟨_,rfl⟩
 obtain ⟨g5,hg5⟩:∃ g,g = w.heap.size + 1 + 1:=⟨_,rfl⟩
 have hbx:=box3_blk w (.cells #[.string f.f0,.slice A1 f.f1.length c1,.int .i64 f.f2,.slice A3 f.f3.length c3,.slice A4 f.f4.length c4] 38) (.cells #[.int .i64 k,.int .i64 v,.slice A5 l.length c5] 44) (.cells #[.int .i64 0,.int .i64 1,.int .i64 2,.int .i64 0,.int .i64 0] 3)
 have hB:Below w.heap.size w w1:=by rw [hw1];exact box3_below _ _ _
 rw [← hg5,← hg3,← hg2,← hw1] at hbx
 try rw [← hg5,← hg3,← hg2,← hw1]
 have hB1:=hB
 have HB:=Lib.hid hB
 obtain ⟨y0,y1,y2,y3,y4⟩:=S5_blk hbx.1
 obtain ⟨x0,x1,x2⟩:=S3b hbx.2.1
 obtain ⟨a0,a1,a2,a3,a4⟩:=S5_blk hbx.2.2
 clear hw1 hg2 hg3 hg5 hbx hB hB1
 obtain ⟨bad,hbad⟩:∃ bad,bad = !((decide (1 ≤ k) && decide (k ≤ 4)) && ((l.length:Int) == wayI k) && bw):=⟨_,rfl⟩
 have HBAD:=Lib.hid hbad
 clear hbad
 go_cut [34] (fun v wx=>v = .bool bad ∧ Hid (Below w1.heap.size w1 wx))
 case first=>
  by_cases h1:k < 1
  ·have d1:decide (k < 1) = true:=decide_eq_true h1
   have HP:Hid (true = bad):=Lib.hid (by rw [HBAD.out,decide_eq_false (show ¬ 1 ≤ k by omega)];rfl)
   clear h1
   go_quiet ((go_at_call 72;exact Calls.quiet_of (HWI.out _ (pw_below_drewN HB.out _))))
   go_wp2
   go_meet
   exact ⟨by rw [HP.out],Lib.hid (pw_below_drewN (Below.refl _ _) _)⟩
  by_cases h4:k > 4
  ·have d1:decide (k < 1) = false:=decide_eq_false h1
   have d4:decide (k > 4) = true:=decide_eq_true h4
   have d5:decide (4 < k) = true:=decide_eq_true h4
   have HP:Hid (true = bad):=Lib.hid (by rw [HBAD.out,decide_eq_false (show ¬ k ≤ 4 by omega)];simp)
   clear h1 h4
   go_quiet ((go_at_call 72;exact Calls.quiet_of (HWI.out _ (pw_below_drewN HB.out _))))
   go_wp2
   go_meet
   exact ⟨by rw [HP.out],Lib.hid (pw_below_drewN (Below.refl _ _) _)⟩
  have hk:k = 1 ∨ k = 2 ∨ k = 3 ∨ k = 4:=by omega
  clear h1 h4
  rcases hk with rfl | rfl | rfl | rfl
  ·have hq:∃ q,((l.length:Int) == 1) = q:=⟨_,rfl⟩
   obtain ⟨q,hq⟩:=hq
   have hq':((l.length:Int) != 1) = !q:=by rw [← hq];rfl
   have HK:Hid (bad = !(q && bw)):=Lib.hid (by rw [HBAD.out];show (!(true && ((l.length:Int) == 1) && bw)) = _;rw [hq];rfl)
   clear hq
   cases q with
   | false=>
     go_quiet ((go_at_call 72;exact Calls.quiet_of (HWI.out _ (pw_below_drewN HB.out _))))
     go_wp2
     go_meet
     exact ⟨by rw [HK.out];rfl,Lib.hid (pw_below_drewN (Below.refl _ _) _)⟩
   | true=>
     go_quiet ((go_at_call 72;exact Calls.quiet_of (HWI.out _ (pw_below_drewN HB.out _))))
     go_wp2
     go_meet
     exact ⟨by rw [HK.out];cases bw <;> rfl,Lib.hid (pw_below_drewN (Below.refl _ _) _)⟩
  ·have hq:∃ q,((l.length:Int) == 2) = q:=⟨_,rfl⟩
   obtain ⟨q,hq⟩:=hq
   have hq':((l.length:Int) != 2) = !q:=by rw [← hq];rfl
   have HK:Hid (bad = !(q && bw)):=Lib.hid (by rw [HBAD.out];show (!(true && ((l.length:Int) == 2) && bw)) = _;rw [hq];rfl)
   clear hq
   cases q with
   | false=>
     go_quiet ((go_at_call 72;exact Calls.quiet_of (HWI.out _ (pw_below_drewN HB.out _))))
     go_wp2
     go_meet
     exact ⟨by rw [HK.out];rfl,Lib.hid (pw_below_drewN (Below.refl _ _) _)⟩
   | true=>
     go_quiet ((go_at_call 72;exact Calls.quiet_of (HWI.out _ (pw_below_drewN HB.out _))))
     go_wp2
     go_meet
     exact ⟨by rw [HK.out];cases bw <;> rfl,Lib.hid (pw_below_drewN (Below.refl _ _) _)⟩
  ·have hq:∃ q,((l.length:Int) == 0) = q:=⟨_,rfl⟩
   obtain ⟨q,hq⟩:=hq
   have hq':((l.length:Int) != 0) = !q:=by rw [← hq];rfl
   have HK:Hid (bad = !(q && bw)):=Lib.hid (by rw [HBAD.out];show (!(true && ((l.length:Int) == 0) && bw)) = _;rw [hq];rfl)
   clear hq
   cases q with
   | false=>
     go_quiet ((go_at_call 72;exact Calls.quiet_of (HWI.out _ (pw_below_drewN HB.out _))))
     go_wp2
     go_meet
     exact ⟨by rw [HK.out];rfl,Lib.hid (pw_below_drewN (Below.refl _ _) _)⟩
   | true=>
     go_quiet ((go_at_call 72;exact Calls.quiet_of (HWI.out _ (pw_below_drewN HB.out _))))
     go_wp2
     go_meet
     exact ⟨by rw [HK.out];cases bw <;> rfl,Lib.hid (pw_below_drewN (Below.refl _ _) _)⟩
  ·have hq:∃ q,((l.length:Int) == 0) = q:=⟨_,rfl⟩
   obtain ⟨q,hq⟩:=hq
   have hq':((l.length:Int) != 0) = !q:=by rw [← hq];rfl
   have HK:Hid (bad = !(q && bw)):=Lib.hid (by rw [HBAD.out];show (!(true && ((l.length:Int) == 0) && bw)) = _;rw [hq];rfl)
   clear hq
   cases q with
   | false=>
     go_quiet ((go_at_call 72;exact Calls.quiet_of (HWI.out _ (pw_below_drewN HB.out _))))
     go_wp2
     go_meet
     exact ⟨by rw [HK.out];rfl,Lib.hid (pw_below_drewN (Below.refl _ _) _)⟩
   | true=>
     go_quiet ((go_at_call 72;exact Calls.quiet_of (HWI.out _ (pw_below_drewN HB.out _))))
     go_wp2
     go_meet
     exact ⟨by rw [HK.out];cases bw <;> rfl,Lib.hid (pw_below_drewN (Below.refl _ _) _)⟩
 case rest=>
  obtain ⟨rfl,HBx⟩:=hcut
  have HBd:=Lib.hid (below_then HB.out HB.out.size HBx.out)
  have y2:=cellB HBx.out y2
  have y3:=cellB HBx.out y3
  have x0:=cellB HBx.out x0
  have x1:=cellB HBx.out x1
  clear y0 y1 y4 x2 a0 a1 a2 a3 a4 HBx HWI
  cases bad with
  | true=>
    have HF:Hid (false = rtermB f ⟨k,v,l⟩):=Lib.hid (by
     rw [HRT.out]
     by_cases hk:1 ≤ k ∧ k ≤ 4
     ·have h:=HBAD.out
      rw [decide_eq_true hk.1,decide_eq_true hk.2] at h
      rw [term_row hk]
      revert h
      generalize ((l.length:Int) == wayI k) = p
      cases p <;> cases bw <;> simp
     ·rw [term_k0 (by omega)];simp)
    go_wp2_with (fail)
    go_ret
    exact ⟨ret_bool HF.out,HBd⟩
  | false=>
    have hk:1 ≤ k ∧ k ≤ 4:=by
     have h:=HBAD.out
     by_cases a:1 ≤ k <;> by_cases b:k ≤ 4 <;> simp [a,b] at h ⊢
    have HF:Hid (rtermB f ⟨k,v,l⟩ = valI f k v):=Lib.hid (by
     rw [HRT.out,term_row hk]
     have h:=HBAD.out
     rw [decide_eq_true hk.1,decide_eq_true hk.2] at h
     revert h
     generalize ((l.length:Int) == wayI k) = p
     cases p <;> cases bw <;> simp)
    clear HBAD
    have hk:k = 1 ∨ k = 2 ∨ k = 3 ∨ k = 4:=by omega
    by_cases hr:f.f2 = 0
    ·have e0:(f.f2 == 0) = true:=by simp [hr]
     have HR:=Lib.hid hr
     clear hr
     rcases hk with rfl | rfl | rfl | rfl
     all_goals first
      | (have HV:Hid ((v == -1) = rtermB f ⟨_,v,l⟩):=Lib.hid (by rw [HF.out];unfold valI;rw [if_pos (by have:=HR.out;omega)])
         clear HF
         go_wp2_with (fail)
         go_ret
         exact ⟨ret_bool HV.out,HBd⟩)
      | (have HV:Hid (rtermB f ⟨_,v,l⟩ = inB f.f3.length v):=Lib.hid (by rw [HF.out];unfold valI;rw [if_neg (by have:=HR.out;omega)])
         clear HF
         by_cases h0:0 ≤ v
         ·have d0:decide (v ≥ 0) = true:=decide_eq_true h0
          have d1:decide (0 ≤ v) = true:=decide_eq_true h0
          obtain ⟨q,hq⟩:∃ q,decide (v < (f.f3.length:Int)) = q:=⟨_,rfl⟩
          have HX:Hid (q = inB f.f3.length v):=Lib.hid (by unfold inB;rw [d1,hq];rfl)
          clear h0
          go_wp2_with (fail)
          go_ret
          exact ⟨ret_bool (by rw [HV.out];exact HX.out),HBd⟩
         ·have d0:decide (v ≥ 0) = false:=decide_eq_false h0
          have d1:decide (0 ≤ v) = false:=decide_eq_false h0
          have HX:Hid (false = inB f.f3.length v):=Lib.hid (by unfold inB;rw [d1];rfl)
          clear h0
          go_wp2_with (fail)
          go_ret
          exact ⟨ret_bool (by rw [HV.out];exact HX.out),HBd⟩)
    ·have e0:(f.f2 == 0) = false:=by simp [hr]
     have HR:=Lib.hid hr
     clear hr
     rcases hk with rfl | rfl | rfl | rfl
     all_goals first
      | (have HV:Hid ((v == -1) = rtermB f ⟨_,v,l⟩):=Lib.hid (by rw [HF.out];unfold valI;rw [if_pos (by have:=HR.out;omega)])
         clear HF
         go_wp2_with (fail)
         go_ret
         exact ⟨ret_bool HV.out,HBd⟩)
      | (have HV:Hid (rtermB f ⟨_,v,l⟩ = inB f.f3.length v):=Lib.hid (by rw [HF.out];unfold valI;rw [if_neg (by have:=HR.out;omega)])
         clear HF
         by_cases h0:0 ≤ v
         ·have d0:decide (v ≥ 0) = true:=decide_eq_true h0
          have d1:decide (0 ≤ v) = true:=decide_eq_true h0
          obtain ⟨q,hq⟩:∃ q,decide (v < (f.f3.length:Int)) = q:=⟨_,rfl⟩
          have HX:Hid (q = inB f.f3.length v):=Lib.hid (by unfold inB;rw [d1,hq];rfl)
          clear h0
          go_wp2_with (fail)
          go_ret
          exact ⟨ret_bool (by rw [HV.out];exact HX.out),HBd⟩
         ·have d0:decide (v ≥ 0) = false:=decide_eq_false h0
          have d1:decide (0 ≤ v) = false:=decide_eq_false h0
          have HX:Hid (false = inB f.f3.length v):=Lib.hid (by unfold inB;rw [d1];rfl)
          clear h0
          go_wp2_with (fail)
          go_ret
          exact ⟨ret_bool (by rw [HV.out];exact HX.out),HBd⟩)
end Go.Proofs.Ytgbeliajhccndaa
end
