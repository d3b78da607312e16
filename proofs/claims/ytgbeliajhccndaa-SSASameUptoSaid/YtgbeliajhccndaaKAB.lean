/- Lemmas of this claim (WE,YU). -/
import Derived.Test.YtgbeliajhccndaaKV
import Derived.Test.YtgbeliajhccndaaKW
import Derived.Test.YtgbeliajhccndaaKZ
import Derived.Test.YtgbeliajhccndaaKAA
section
set_option linter.unusedVariables false
set_option linter.unusedSimpArgs false
namespace Go.Proofs.Ytgbeliajhccndaa
open Go.RowKit Go.Proofs.YtgbeliajhccndaaW.PrintWords Go.Proofs.YtgbeliajhccndaaW.PrintLast Go.Proofs.YtgbeliajhccndaaW.PrintMore PP
structure SizeH (ps:List S38):Prop where
 n:ps.length ≤ 1000000000
 lim:∀ f ∈ ps,LimF f
 blk:∀ f ∈ ps,f.f4.length ≤ 400000
 name:∀ f ∈ ps,f.f0.size ≤ 3000000000000
theorem check_some {ps:List S38} {m:Int} (h:SizeH ps):ssa_Check.f ps m = some (checkE ps m):=by
 unfold ssa_Check.f
 rw [if_pos]
 refine List.all_eq_true.2 (fun f hf=>?_)
 unfold fitF
 simp [h.name f hf,h.blk f hf]
theorem le_check {w W:World} {gL g cap:Nat} {ps:List S38} {m:Int} (h:Le w W gL g cap ps m) (hS:SizeH ps):Calls Try.prog 12 #[.agg #[.slice (some ⟨g,0,none⟩) ps.length cap,.int .i64 m]] W fun e w'=>e = .returned (.int .i64 (checkE ps m)) ∧ Below W.heap.size W w':=by
 obtain ⟨_,h2,h3⟩:=Kd.R_reads' h.rf
 have hl:(tt ps ++ [m38]).length = ps.length + 1:=by unfold tt;simp
 rw [hl] at h3
 exact ssa_Check.calls (some ⟨g,0,none⟩) cap ps m _ W (f38_C h3 rfl) (by omega) (check_some hS)
end Go.Proofs.Ytgbeliajhccndaa
end
section
set_option linter.unusedVariables false
set_option linter.unusedSimpArgs false
namespace Go.Proofs.Ytgbeliajhccndaa
open Go.RowKit Go.Proofs.YtgbeliajhccndaaW.PrintWords Go.Proofs.YtgbeliajhccndaaW.PrintLast Go.Proofs.YtgbeliajhccndaaW.PrintMore PP
structure Sm (w w1 W:World) (gL gM g cap gN cp n:Nat) (m mU:Int) (ps us:List S38) (i:Nat):Prop where
 below:Below w.heap.size w W
 lb:W.heap[gL]? = some (.cells #[.slice (some ⟨g,0,none⟩) n cap,.int .i64 m] 32 (0,0))
 mb:W.heap[gM]? = some (.cells #[.slice (some ⟨gN,0,none⟩) n cp,.int .i64 mU] 32 (0,0))
 gl:w.heap.size ≤ gL
 lp:ps.length = n
 lu:us.length = n
 rl:f38.R 38 W w.heap.size (fun _=>True) (.slice (some ⟨g,0,none⟩) (n + 1) cap) (tt (us.take i ++ ps.drop i) ++ [m38])
 rm:f38.R 38 W w1.heap.size (fun _=>True) (.slice (some ⟨gN,0,none⟩) (n + 1) cp) (tt us ++ [m38])
 lt:g < w1.heap.size
theorem Sm.then_ {w w1 W W':World} {gL gM g cap gN cp n:Nat} {m mU:Int} {ps us:List S38} {i:Nat} (h:Sm w w1 W gL gM g cap gN cp n m mU ps us i) (hb:Below W.heap.size W W'):Sm w w1 W' gL gM g cap gN cp n m mU ps us i:=
 ⟨below_then h.below h.below.size hb,blkB hb h.lb,blkB hb h.mb,h.gl,h.lp,h.lu,Kd.R_below h.rl hb,Kd.R_below h.rm hb,h.lt⟩
theorem Sm.init {w w1 W1 W:World} {gL gM g cap gN cp n:Nat} {m mU:Int} {ps us:List S38} (h1:Le w W1 gL g cap ps m) (hb:Below W1.heap.size W1 w1) (h2:Le w1 W gM gN cp us mU) (lp:ps.length = n) (lu:us.length = n):Sm w w1 W gL gM g cap gN cp n m mU ps us 0:=by
 have hb2:=below_then hb hb.size h2.below
 have hr:=Kd.R_below (Kd.R_below h1.rf hb) h2.below
 subst lp
 have hm:=h2.rf
 have hm2:=h2.lb
 rw [lu] at hm hm2
 exact ⟨below_then h1.below h1.below.size hb2,blkB hb2 h1.lb,hm2,h1.gl,rfl,lu,by rw [List.take_zero,List.drop_zero,List.nil_append];exact hr,hm,by
  obtain ⟨cells,hc⟩:=Kd.R_typed (Kd.R_below h1.rf hb) g rfl
  exact blk_lt hc⟩
theorem tl_openM {α:Type} {e:Nat} {d:Kd α} {ms:List α} {W:World} {base:Nat} {ok:Nat → Prop} {x:List α × Bool} {cs:List Value} (h:(tl e d ms).M W base ok x cs):∃ A n c,cs = [.slice A n c]:=by
 obtain ⟨v,rfl,⟨_,_,rfl⟩ | ⟨_,A,c,rfl,_⟩⟩:=h
 ·exact ⟨_,_,_,rfl⟩
 ·exact ⟨_,_,_,rfl⟩
theorem f38_openM {W:World} {base:Nat} {ok:Nat → Prop} {x:S38 × Bool} {cs:List Value} (h:f38.M W base ok x cs):∃ A1 n1 c1 A3 n3 c3 A4 n4 c4,cs = [.string x.1.f0,.slice A1 n1 c1,.int .i64 x.1.f2,.slice A3 n3 c3,.slice A4 n4 c4]:=by
 obtain ⟨a0,b0,rfl,rfl,a1,b1,rfl,h1,a2,b2,rfl,rfl,a3,b3,rfl,h3,h4⟩:=h
 obtain ⟨A1,n1,c1,rfl⟩:=tl_openM h1
 obtain ⟨A3,n3,c3,rfl⟩:=tl_openM h3
 obtain ⟨A4,n4,c4,rfl⟩:=tl_openM h4
 exact ⟨_,_,_,_,_,_,_,_,_,rfl⟩
theorem tt_len (l:List S38):(tt l ++ [m38]).length = l.length + 1:=by unfold tt;simp
theorem Sm.step {w w1 W:World} {gL gM g cap gN cp n:Nat} {m mU:Int} {ps us:List S38} {i:Nat} (h:Sm w w1 W gL gM g cap gN cp n m mU ps us i) (hi:i < n) :
 ∃ s A1 n1 c1 r A3 n3 c3 A4 n4 c4 u0 u1 u2 u3 u4,(W.cell? ⟨gN,i * 5,none⟩ = some (.string s) ∧ W.cell? ⟨gN,i * 5 + 1,none⟩ = some (.slice A1 n1 c1) ∧ W.cell? ⟨gN,i * 5 + 2,none⟩ = some (.int .i64 r) ∧ W.cell? ⟨gN,i * 5 + 3,none⟩ = some (.slice A3 n3 c3) ∧ W.cell? ⟨gN,i * 5 + 4,none⟩ = some (.slice A4 n4 c4))
   ∧ (W.cell? ⟨g,i * 5,none⟩ = some u0 ∧ W.cell? ⟨g,i * 5 + 1,none⟩ = some u1 ∧ W.cell? ⟨g,i * 5 + 2,none⟩ = some u2 ∧ W.cell? ⟨g,i * 5 + 3,none⟩ = some u3 ∧ W.cell? ⟨g,i * 5 + 4,none⟩ = some u4)
   ∧ (W.frozen? ⟨g,i * 5,none⟩ = false ∧ W.frozen? ⟨g,i * 5 + 1,none⟩ = false ∧ W.frozen? ⟨g,i * 5 + 2,none⟩ = false ∧ W.frozen? ⟨g,i * 5 + 3,none⟩ = false ∧ W.frozen? ⟨g,i * 5 + 4,none⟩ = false)
   ∧ Hid (Sm w w1 (((((W.setCell ⟨g,i * 5,none⟩ (.string s)).setCell ⟨g,i * 5 + 1,none⟩ (.slice A1 n1 c1)).setCell ⟨g,i * 5 + 2,none⟩ (.int .i64 r)).setCell ⟨g,i * 5 + 3,none⟩ (.slice A3 n3 c3)).setCell ⟨g,i * 5 + 4,none⟩ (.slice A4 n4 c4)) gL gM g cap gN cp n m mU ps us (i + 1)):=by
 obtain ⟨cs,hcl,hM,hcc,hfr⟩:=Kd.R_elem h.rl (m38) (i:Int) (by omega) (by omega)
 obtain ⟨ds,hdl,hN,hdc,_⟩:=Kd.R_elem h.rm (m38) (i:Int) (by omega) (by omega)
 obtain ⟨cells,hb0⟩:=Kd.R_typed h.rl g rfl
 have hbase:=Kd.R_base h.rl g rfl
 obtain ⟨_,_,_,_,_,_,_,_,_,rfl⟩:=f38_openM hM
 obtain ⟨A1,n1,c1,A3,n3,c3,A4,n4,c4,rfl⟩:=f38_openM hN
 rw [Int.toNat_natCast] at hcc hfr hdc hN
 refine ⟨_,A1,n1,c1,_,A3,n3,c3,A4,n4,c4,_,_,_,_,_,⟨hdc 0 _ rfl,hdc 1 _ rfl,hdc 2 _ rfl,hdc 3 _ rfl,hdc 4 _ rfl⟩,⟨hcc 0 _ rfl,hcc 1 _ rfl,hcc 2 _ rfl,hcc 3 _ rfl,hcc 4 _ rfl⟩,⟨hfr 0,hfr 1,hfr 2,hfr 3,hfr 4⟩,Lib.hid ?_⟩
 have hx:(tt us ++ [m38]).getD i m38 = ((us.getD i z38),true):=by
  rw [List.getD_eq_getElem?_getD,List.getD_eq_getElem?_getD,List.getElem?_append_left (by unfold tt;rw [List.length_map];have:=h.lu;omega)]
  unfold tt
  rw [List.getElem?_map,List.getElem?_eq_getElem (by have:=h.lu;omega)]
  rfl
 rw [hx] at hN ⊢
 have hM2:=f38.M_mono (ok':=fun k=>True ∧ k ≠ g) (fun k hk=>⟨trivial,by have:=hk.2.1;have:=h.lt;omega⟩) (f38.M_lower (Nat.le_of_lt (Nat.lt_of_le_of_lt hbase h.lt)) (f38.M_bound hN))
 have hs:=(Kd.R_seg h.rl (i:Int) (by omega) (by omega) (j:=0) hcl (by rw [Int.toNat_natCast];exact hcc) (seg:=[.string (us.getD i z38).f0,.slice A1 n1 c1,.int .i64 (us.getD i z38).f2,.slice A3 n3 c3,.slice A4 n4 c4]) (show 5 ≤ 5 from Nat.le_refl _) (x':=(us.getD i z38,true)) (okp:=fun k=>True ∧ k ≠ g) hM2 (fun _ hk=>hk)).1
 rw [Int.toNat_natCast] at hs
 have hl:gL ≠ g:=ty_ne h.lb hb0 (by decide)
 have hm:gM ≠ g:=ty_ne h.mb hb0 (by decide)
 have hset:(tt (us.take i ++ ps.drop i) ++ [m38]).set i (us.getD i z38,true) = tt (us.take (i + 1) ++ ps.drop (i + 1)) ++ [m38]:=by
  have h1:=h.lu
  have h2:=h.lp
  apply List.ext_getElem?
  intro q
  rw [List.getElem?_set]
  have hL:(tt (us.take i ++ ps.drop i)).length = n:=by unfold tt;simp;omega
  have hR:(tt (us.take (i + 1) ++ ps.drop (i + 1))).length = n:=by unfold tt;simp;omega
  by_cases hq:i = q
  ·subst hq
   rw [if_pos rfl,if_pos (by rw [List.length_append,hL];omega),List.getElem?_append_left (by omega)]
   unfold tt
   rw [List.getElem?_map,List.getElem?_append_left (by simp;omega),List.getElem?_take,if_pos (by omega),List.getD_eq_getElem?_getD,List.getElem?_eq_getElem (by omega)]
   rfl
  ·rw [if_neg hq]
   by_cases hn:q < n
   ·rw [List.getElem?_append_left (by omega),List.getElem?_append_left (by omega)]
    unfold tt
    rw [List.getElem?_map,List.getElem?_map]
    congr 1
    by_cases hlt:q < i
    ·rw [List.getElem?_append_left (by simp;omega),List.getElem?_append_left (by simp;omega),List.getElem?_take,List.getElem?_take,if_pos hlt,if_pos (by omega)]
    ·rw [List.getElem?_append_right (by simp;omega),List.getElem?_append_right (by simp;omega),List.getElem?_drop,List.getElem?_drop]
     congr 1
     simp
     omega
   ·rw [List.getElem?_append_right (by omega),List.getElem?_append_right (by omega),hL,hR]
 rw [hset] at hs
 refine ⟨below_set (below_set (below_set (below_set (below_set h.below hbase) hbase) hbase) hbase) hbase,blk_far (blk_far (blk_far (blk_far (blk_far h.lb hl _) hl _) hl _) hl _) hl _,blk_far (blk_far (blk_far (blk_far (blk_far h.mb hm _) hm _) hm _) hm _) hm _,h.gl,h.lp,h.lu,hs,?_,h.lt⟩
 have hok:∀ k,True ∧ w1.heap.size ≤ k → k ≠ g:=fun k hk=>by have:=h.lt;omega
 have hrm:f38.R 38 W w1.heap.size (fun k=>True ∧ w1.heap.size ≤ k) (.slice (some ⟨gN,0,none⟩) (n + 1) cp) (tt us ++ [m38]):=Kd.R_mono (Kd.R_bound h.rm) (fun k hk=>⟨trivial,hk.2.1⟩)
 exact Kd.R_mono (Kd.R_far (p:=⟨g,i * 5 + 4,none⟩) (Kd.R_far (p:=⟨g,i * 5 + 3,none⟩) (Kd.R_far (p:=⟨g,i * 5 + 2,none⟩) (Kd.R_far (p:=⟨g,i * 5 + 1,none⟩) (Kd.R_far (p:=⟨g,i * 5,none⟩) hrm hok _) hok _) hok _) hok _) hok _) (fun _ _=>trivial)
theorem Sm.main {w w1 W:World} {gL gM g cap gN cp n:Nat} {m mU:Int} {ps us:List S38} (h:Sm w w1 W gL gM g cap gN cp n m mU ps us n) (hS:SizeH us) :
 Below w.heap.size w (W.setCell ⟨gL,1,none⟩ (.int .i64 mU)) ∧ ((W.setCell ⟨gL,1,none⟩ (.int .i64 mU)).cell? ⟨gL,0,none⟩ = some (.slice (some ⟨g,0,none⟩) n cap) ∧ (W.setCell ⟨gL,1,none⟩ (.int .i64 mU)).cell? ⟨gL,1,none⟩ = some (.int .i64 mU)) ∧
 Hid (Calls Try.prog 12 #[.agg #[.slice (some ⟨g,0,none⟩) n cap,.int .i64 mU]] (W.setCell ⟨gL,1,none⟩ (.int .i64 mU)) fun e w'=>e = .returned (.int .i64 (checkE us mU)) ∧ Below (W.setCell ⟨gL,1,none⟩ (.int .i64 mU)).heap.size (W.setCell ⟨gL,1,none⟩ (.int .i64 mU)) w'):=by
 have hr:=h.rl
 have e1:us.take n = us:=List.take_of_length_le (by rw [h.lu];exact Nat.le_refl _)
 have e2:ps.drop n = []:=List.drop_of_length_le (by rw [h.lp];exact Nat.le_refl _)
 rw [e1,e2,List.append_nil] at hr
 refine ⟨below_set h.below h.gl,S2_blk ((blk_set h.lb 1 _).trans rfl),Lib.hid ?_⟩
 have hr2:=Kd.R_set hr h.lb (by decide) 1 (.int .i64 mU)
 obtain ⟨_,h2,h3⟩:=Kd.R_reads' hr2
 rw [tt_len] at h3
 have hlu:=h.lu
 rw [← hlu] at h2 ⊢
 exact ssa_Check.calls (some ⟨g,0,none⟩) cap us mU _ _ (f38_C h3 rfl) (by omega) (check_some hS)
end Go.Proofs.Ytgbeliajhccndaa
end
