/- Lemmas of this claim (YS,YT,YX,YV). -/
import Derived.Test.YtgbeliajhccndaaKAK
import Derived.Test.YtgbeliajhccndaaKF
import Derived.Test.YtgbeliajhccndaaKM
import Derived.Test.YtgbeliajhccndaaKAB
section
set_option linter.unusedVariables false
set_option linter.unusedSimpArgs false
namespace Go.Proofs.Ytgbeliajhccndaa
open Go.RowKit Go.Proofs.YtgbeliajhccndaaW.PrintWords Go.Proofs.YtgbeliajhccndaaW.PrintLast Go.Proofs.YtgbeliajhccndaaW.PrintMore PP
theorem cnt_zero {fs:List S38} {i:Nat} (hi:i < fs.length) (s:ByteArray):cntS (fs.take i) s=0 ↔ ∀ k,k < i→(fs.getD k z38).f0≠s:=by
 unfold cntS
 rw [List.length_eq_zero_iff,List.filter_eq_nil_iff]
 constructor
 ·intro h k hk e
  refine h (fs.getD k z38) ?_ (by simpa using e)
  rw [List.mem_take_iff_getElem]
  refine ⟨k,by omega,?_⟩
  rw [List.getD_eq_getElem?_getD,List.getElem?_eq_getElem (show k < fs.length by omega)]
  rfl
 ·intro h g hg
  rw [List.mem_take_iff_getElem] at hg
  obtain ⟨k,hk,e⟩:=hg
  have:=h k (by omega)
  rw [List.getD_eq_getElem?_getD,List.getElem?_eq_getElem (show k < fs.length by omega)] at this
  simpa [e] using this
def formed_T4:Bool × List (List Nat × List Nat):=(true,[([],[]),([0],[0]),([],[]),([1,2],[1,2]),([3],[3]),([4],[4]),([5],[5]),([6],[6]),([7,6],[7]),([8],[8]),([8],[8]),([10,8],[8,10]),([8],[8]),([11,12,8],[8,11,12]),([13,8],[8,13]),([9,14,8,8],[8,9,14]),([15,8],[8,15]),([8,16],[8,16])])
def formed_B4:List Nat:=[0,1,0,7,15,31,63,127,255,511,511,1535,511,7679,15871,32767,65535,131071]
theorem formed_tab4:rtab .any (opsOf Try.f27 4)=formed_T4:=by kernel_rfl
theorem formed_bits4:waitsOk formed_T4.2 formed_B4=true:=by kernel_rfl
structure SzH (fs:List S38):Prop where
 n:fs.length≤1000000000
 lim:∀ f ∈ fs,LimF f
 name:∀ f ∈ fs,f.f0.size≤3000000000000
set_option maxRecDepth 100000 in
set_option maxHeartbeats 4000000 in
theorem rformed_any (fs:List S38) (mn:Int) (A:Option Addr) (c:Nat) (w:World) (hfs:k38.C w A fs.length fs) (hc:fs.length≤c) (hS:SzH fs) :
 Calls Try.prog 27 #[.agg #[.slice A fs.length c,.int .i64 mn]] w fun e W=>e=.returned (.bool (formedB fs mn))∧Hid (Below w.heap.size w W):=by
 obtain ⟨Z,hZ⟩:∃ Z,Z=formedB fs mn:=⟨_,rfl⟩
 have HZ:=Lib.hid hZ
 rw [← hZ]
 have HFS:=Lib.hid hfs
 have HC:=Lib.hid hc
 have HSZ:=Lib.hid hS
 clear hfs hc hS hZ
 go_enter Try.func27,Try.ntmps27
 go_upto_region 1 with (fail)
 obtain ⟨w1,hw1⟩:∃ w1,w1=w.alloc (.cells #[.slice A fs.length c,.int .i64 mn] 24):=⟨_,rfl⟩
 obtain ⟨g,hg⟩:∃ g,g=w.heap.size:=⟨_,rfl⟩
 have hbx:w1.heap[g]?=some (.cells #[.slice A fs.length c,.int .i64 mn] 24 (0,0)):=by rw [hw1,hg];exact blk_new w _
 have hB:Below w.heap.size w w1:=by rw [hw1];exact below_alloc (Below.refl _ _) _
 rw [← hg,← hw1]
 have HBX:=Lib.hid hbx
 have HB:=Lib.hid hB
 have HF1:=Lib.hid (Kd.C_below HFS.out hB)
 clear hw1 hg hbx hB
 go_wp2_with (fail)
 go_loopg [3] fs.length (fun k v wr=>∃ i:Nat,i≤fs.length∧v=.int .i64 i∧Hid (i+k=fs.length)∧Hid (∀ j,j < i→rowB fs j=true)∧Hid (Below w1.heap.size w1 wr))
 case atStart=>exact ⟨0,by omega,rfl,Lib.hid (by omega),Lib.hid (fun j hj=>by omega),Lib.hid (Below.refl _ _)⟩
 case round=>
  obtain ⟨i,hi,rfl,HI,HP,HBr⟩:=hrel
  obtain ⟨s0,s1⟩:=S2_blk (blkB HBr.out HBX.out)
  by_cases hlt:i < fs.length
  ·obtain ⟨ad,A1,c1,A3,c3,A4,c4,eA,x0,x1,x2,x3,x4,l1,i1,l3,i3,l4,i4⟩:=at_T38 (Kd.C_below HF1.out HBr.out) (i:Int) (by omega) (by omega)
   have hfr:rd_T38 fs (i:Int)=fs.getD i z38:=by simp [rd_T38]
   have hfm:rd_T38 fs (i:Int) ∈ fs:=by rw [hfr];exact mem_getD z38 hlt
   simp only [Int.toNat_natCast] at x0 x1 x2 x3 x4
   obtain ⟨nb,hnb⟩:∃ nb,nb=nameB (rd_T38 fs (i:Int)).f0:=⟨_,rfl⟩
   obtain ⟨fb,hfb⟩:∃ fb,fb=funcB fs (rd_T38 fs (i:Int)):=⟨_,rfl⟩
   have HROW:Hid (rowB fs i=(decide (∀ k,k < i→(fs.getD k z38).f0≠(rd_T38 fs (i:Int)).f0) && (nb && fb))):=Lib.hid (by
    unfold rowB
    rw [hnb,hfb]
    congr 1
    rw [decide_eq_decide]
    exact cnt_zero hlt _)
   have HNO:Hid (rowB fs i=false→false=Z):=Lib.hid (fun h=>by
    rw [HZ.out,formedB_row]
    rw [← Bool.not_eq_true,List.all_eq_true]
    intro ha
    rw [ha i (List.mem_range.2 hlt)] at h
    cases h)
   generalize hff:rd_T38 fs (i:Int)=f at *
   have HFR:Hid (fs.getD i z38=f):=Lib.hid hfr.symm
   have HNM:Hid (∀ W:World,Below wr.heap.size wr W→Calls Try.prog 50 #[.string f.f0] W fun e w'=>e=.returned (.bool nb)∧Hid (Below W.heap.size W w')):=Lib.hid (fun W hW=>by rw [hnb];exact isName_any9 f.f0 W (by have:=HSZ.out.name f hfm;omega))
   have HFF:Hid (∀ W:World,Below wr.heap.size wr W→Calls Try.prog 51 #[.agg #[.slice A fs.length c,.int .i64 mn],.agg #[.string f.f0,.slice A1 f.f1.length c1,.int .i64 f.f2,.slice A3 f.f3.length c3,.slice A4 f.f4.length c4]] W fun e w'=>e=.returned (.bool fb)∧Hid (Below W.heap.size W w')):=Lib.hid (fun W hW=>by
    rw [hfb]
    exact rformedFunc_any fs mn A c f A1 c1 A3 c3 A4 c4 W (Kd.C_below HF1.out (below_then HBr.out HBr.out.size hW)) HC.out ⟨l1,Kd.C_below i1 hW,l3,Kd.C_below i3 hW,l4,Kd.C_below i4 hW⟩ (HSZ.out.lim f hfm))
   have HDR:Hid (Below wr.heap.size wr wr.drew):=Lib.hid (below_drew (Below.refl _ _))
   subst eA
   clear hnb hfb hfm hfr hff l1 i1 l3 i3 l4 i4
   go_upto_region 4 with (fail)
   cases nb with
   | false=>
     go_cut [29] (fun v wx=>v=.bool true∧Hid (Below wr.heap.size wr wx))
     case first=>
      refine start_ (n:=18) (S:=fun w'=>w'.cell? ⟨g,0,none⟩=some (.slice (some ad) fs.length c)∧w'.cell? ⟨g,1,none⟩=some (.int .i64 mn)∧w'.cell? (ad.add (i * 5))=some (.string f.f0)∧w'.cell? ⟨(ad.add (i * 5)).block,(ad.add (i * 5)).off+1,none⟩=some (.slice A1 f.f1.length c1)∧w'.cell? ⟨(ad.add (i * 5)).block,(ad.add (i * 5)).off+2,none⟩=some (.int .i64 f.f2)∧w'.cell? ⟨(ad.add (i * 5)).block,(ad.add (i * 5)).off+3,none⟩=some (.slice A3 f.f3.length c3)∧w'.cell? ⟨(ad.add (i * 5)).block,(ad.add (i * 5)).off+4,none⟩=some (.slice A4 f.f4.length c4)) (ds:=[]) (bl 0 18) (by kernel_rfl) rfl rfl (⟨cellD s0,cellD s1,cellD x0,cellD x1,cellD x2,cellD x3,cellD x4⟩) (fun hHeld=>?_)
      refine with_tabW formed_tab4 formed_bits4 (fun HT_ HW_=>?_)
      refine pure_ (i:=0) (N:=some 12) (v:=?_) (a':=?_) (bl 1 18) rfl rfl (any_of HT_.out (by kernel_rfl)) (fun _ _ _ h=>h) (Or.inl ⟨by rfl,?_⟩) ?_ ?_
      rotate_left
      ·intro w'
       go_simp
       with_reducible rfl
      rotate_left
      ·simp only [Act.put,List.setIfInBounds_toArray,List.set_cons_zero,List.set_cons_succ,i64_w,i32_w]
       rfl
      refine pure_ (i:=2) (N:=some 14) (v:=?_) (a':=?_) #[true,false,true,false,false,false,false,false,false,false,false,false,false,false,false,false,false,false] rfl rfl (any_of HT_.out (by kernel_rfl)) (fun _ _ _ h=>h) (Or.inl ⟨by rfl,?_⟩) ?_ ?_
      rotate_left
      ·intro w'
       go_simp
       with_reducible rfl
      rotate_left
      ·simp only [Act.put,List.setIfInBounds_toArray,List.set_cons_zero,List.set_cons_succ,i64_w,i32_w]
       rfl
      refine take_ (i:=1) (N:=some 13) (v:=?_) (a':=?_) (bl 3 18) rfl rfl (take_ofW HT_.out HW_.out (by kernel_rfl)) (fun _ _ _ h=>h) (Or.inl ⟨by rfl,?_⟩) hHeld ?_ ?_
      rotate_left
      ·rintro w' ⟨s0,s1,s2,s3,s4,s5,s6⟩
       go_simp
       with_reducible rfl
      rotate_left
      ·simp only [Act.put,List.setIfInBounds_toArray,List.set_cons_zero,List.set_cons_succ,i64_w,i32_w]
       rfl
      refine pure_ (i:=3) (N:=some 15) (v:=?_) (a':=?_) (bl 4 18) rfl rfl (any_of HT_.out (by kernel_rfl)) (fun _ _ _ h=>h) (Or.inl ⟨by rfl,?_⟩) ?_ ?_
      rotate_left
      ·intro w'
       go_simp
       with_reducible rfl
      rotate_left
      ·simp only [Act.put,List.setIfInBounds_toArray,List.set_cons_zero,List.set_cons_succ,i64_w,i32_w]
       rfl
      refine pure_ (i:=4) (N:=some 16) (v:=?_) (a':=?_) (bl 5 18) rfl rfl (any_of HT_.out (by kernel_rfl)) (fun _ _ _ h=>h) (Or.inl ⟨by rfl,?_⟩) ?_ ?_
      rotate_left
      ·intro w'
       go_simp
       with_reducible rfl
      rotate_left
      ·simp only [Act.put,List.setIfInBounds_toArray,List.set_cons_zero,List.set_cons_succ,i64_w,i32_w]
       rfl
      refine take_ (i:=5) (N:=some 17) (v:=?_) (a':=?_) (bl 6 18) rfl rfl (take_ofW HT_.out HW_.out (by kernel_rfl)) (fun _ _ _ h=>h) (Or.inl ⟨by rfl,?_⟩) hHeld ?_ ?_
      rotate_left
      ·rintro w' ⟨s0,s1,s2,s3,s4,s5,s6⟩
       go_simp
       with_reducible rfl
      rotate_left
      ·simp only [Act.put,List.setIfInBounds_toArray,List.set_cons_zero,List.set_cons_succ,i64_w,i32_w]
       rfl
      refine one_ (i:=6) (N:=some 18) (bl 7 18) rfl rfl (one_of HT_.out (by kernel_rfl)) (by decide) (fun K hK=>?_)
      refine goes_ Try.func50 (by kernel_rfl) rfl #[.string f.f0] (by rfl) rfl rfl (by (try simp only [List.map_toArray,List.map_cons,List.map_nil]);first | done | rfl | (simp only [List.length_drop,List.length_take];rfl)) ?_
      with_reducible refine Calls.mono (HNM.out _ HDR.out) ?_
      rintro e w2 ⟨rfl,HB2⟩
      refine ⟨_,rfl,?_⟩
      have HB3:=Lib.hid (undrew HB2.out)
      refine hK.out _ _ (⟨cellB HB3.out s0,cellB HB3.out s1,cellB HB3.out x0,cellB HB3.out x1,cellB HB3.out x2,cellB HB3.out x3,cellB HB3.out x4⟩) (fun hHeld=>?_)
      clear hK K
      refine norm_ (a':=?_) ?_ ?_
      rotate_left
      ·show Act.put _ (some 18) _=_
       simp only [Act.put,List.setIfInBounds_toArray,List.set_cons_zero,List.set_cons_succ,i64_w,i32_w]
       rfl
      refine pure_ (i:=7) (N:=some 19) (v:=?_) (a':=?_) (bl 8 18) rfl rfl (any_of HT_.out (by kernel_rfl)) (fun _ _ _ h=>h) (Or.inl ⟨by rfl,?_⟩) ?_ ?_
      rotate_left
      ·intro w'
       go_simp
       with_reducible rfl
      rotate_left
      ·simp only [Act.put,List.setIfInBounds_toArray,List.set_cons_zero,List.set_cons_succ,i64_w,i32_w]
       rfl
      refine pure_ (i:=8) (N:=some 20) (v:=?_) (a':=?_) (bl 9 18) rfl rfl (any_of HT_.out (by kernel_rfl)) (fun _ _ _ h=>h) (Or.inl ⟨by rfl,?_⟩) ?_ ?_
      rotate_left
      ·intro w'
       go_simp
       with_reducible rfl
      rotate_left
      ·simp only [Act.put,List.setIfInBounds_toArray,List.set_cons_zero,List.set_cons_succ,i64_w,i32_w]
       rfl
      refine pure_ (i:=9) (N:=some 21) (v:=undef) (a':=?_) (bl 10 18) rfl rfl (any_of HT_.out (by kernel_rfl)) (fun _ _ _ h=>h) (Or.inr ⟨by rfl,rfl⟩) ?_ ?_
      rotate_left
      ·simp only [Act.put,List.setIfInBounds_toArray,List.set_cons_zero,List.set_cons_succ,i64_w,i32_w]
       rfl
      refine pure_ (i:=10) (N:=some 22) (v:=undef) (a':=?_) (bl 11 18) rfl rfl (any_of HT_.out (by kernel_rfl)) (fun _ _ _ h=>h) (Or.inr ⟨by rfl,rfl⟩) ?_ ?_
      rotate_left
      ·simp only [Act.put,List.setIfInBounds_toArray,List.set_cons_zero,List.set_cons_succ,i64_w,i32_w]
       rfl
      refine pure_ (i:=11) (N:=some 23) (v:=undef) (a':=?_) (bl 12 18) rfl rfl (any_of HT_.out (by kernel_rfl)) (fun _ _ _ h=>h) (Or.inr ⟨by rfl,rfl⟩) ?_ ?_
      rotate_left
      ·simp only [Act.put,List.setIfInBounds_toArray,List.set_cons_zero,List.set_cons_succ,i64_w,i32_w]
       rfl
      refine pure_ (i:=12) (N:=some 24) (v:=undef) (a':=?_) (bl 13 18) rfl rfl (any_of HT_.out (by kernel_rfl)) (fun _ _ _ h=>h) (Or.inr ⟨by rfl,rfl⟩) ?_ ?_
      rotate_left
      ·simp only [Act.put,List.setIfInBounds_toArray,List.set_cons_zero,List.set_cons_succ,i64_w,i32_w]
       rfl
      refine pure_ (i:=13) (N:=some 25) (v:=undef) (a':=?_) (bl 14 18) rfl rfl (any_of HT_.out (by kernel_rfl)) (fun _ _ _ h=>h) (Or.inr ⟨by rfl,rfl⟩) ?_ ?_
      rotate_left
      ·simp only [Act.put,List.setIfInBounds_toArray,List.set_cons_zero,List.set_cons_succ,i64_w,i32_w]
       rfl
      refine pure_ (i:=14) (N:=some 26) (v:=undef) (a':=?_) (bl 15 18) rfl rfl (any_of HT_.out (by kernel_rfl)) (fun _ _ _ h=>h) (Or.inr ⟨by rfl,rfl⟩) ?_ ?_
      rotate_left
      ·simp only [Act.put,List.setIfInBounds_toArray,List.set_cons_zero,List.set_cons_succ,i64_w,i32_w]
       rfl
      refine pure_ (i:=15) (N:=some 27) (v:=undef) (a':=?_) (bl 16 18) rfl rfl (any_of HT_.out (by kernel_rfl)) (fun _ _ _ h=>h) (Or.inr ⟨by rfl,rfl⟩) ?_ ?_
      rotate_left
      ·simp only [Act.put,List.setIfInBounds_toArray,List.set_cons_zero,List.set_cons_succ,i64_w,i32_w]
       rfl
      refine pure_ (i:=16) (N:=some 28) (v:=undef) (a':=?_) (bl 17 18) rfl rfl (any_of HT_.out (by kernel_rfl)) (fun _ _ _ h=>h) (Or.inr ⟨by rfl,rfl⟩) ?_ ?_
      rotate_left
      ·simp only [Act.put,List.setIfInBounds_toArray,List.set_cons_zero,List.set_cons_succ,i64_w,i32_w]
       rfl
      refine pure_ (i:=17) (N:=some 29) (v:=?_) (a':=?_) (bl 18 18) rfl rfl (any_of HT_.out (by kernel_rfl)) (fun _ _ _ h=>h) (Or.inl ⟨by rfl,?_⟩) ?_ ?_
      rotate_left
      ·intro w'
       go_simp
       with_reducible rfl
      rotate_left
      ·simp only [Act.put,List.setIfInBounds_toArray,List.set_cons_zero,List.set_cons_succ,i64_w,i32_w]
       rfl
      refine done_ (done_of HT_.out (by kernel_rfl)) ?_
      all_goals
       go_wp2_with (fail)
       go_meet
       exact ⟨rfl,HB3⟩
     case rest=>
      obtain ⟨rfl,HBy⟩:=hcut
      have HBn:=Lib.hid (below_then HBr.out HBr.out.size HBy.out)
      have HF:=Lib.hid (HNO.out (by rw [HROW.out];simp))
      go_wp2_with (fail)
      go_ret
      exact ⟨ret_bool HF.out,Lib.hid (below_then HB.out HB.out.size HBn.out)⟩
   | true=>
     have x0d:=x0
     go_cut [29] (fun v wx=>v=.bool (!fb)∧Hid (Below wr.heap.size wr wx))
     case first=>
      go_region_with (first | (go_at_call 50;with_reducible refine Calls.mono (HNM.out _ HDR.out) ?_;rintro e w2 ⟨rfl,HB2⟩;have HB3:=Lib.hid (undrew HB2.out);have s0:=cellB HB3.out s0;have s1:=cellB HB3.out s1;have x0:=cellB HB3.out x0;have x1:=cellB HB3.out x1;have x2:=cellB HB3.out x2;have x3:=cellB HB3.out x3;have x4:=cellB HB3.out x4) | (go_at_call 51;with_reducible refine Calls.mono (HFF.out _ HB3.out) ?_;rintro e w3 ⟨rfl,HB4⟩) | (go_at_call 50;refine stop_intro ?_) | (go_at_call 51;refine stop_intro ?_))
      all_goals
       go_wp2_with (fail)
       go_meet
       exact ⟨rfl,Lib.hid (below_then HB3.out HB3.out.size HB4.out)⟩
     case rest=>
      obtain ⟨rfl,HBy⟩:=hcut
      have HBn:=Lib.hid (below_then HBr.out HBr.out.size HBy.out)
      cases fb with
      | false=>
        have HF:=Lib.hid (HNO.out (by rw [HROW.out];simp))
        clear s0 s1 x0 x1 x2 x3 x4 x0d HNM HFF
        go_wp2_with (fail)
        go_ret
        exact ⟨ret_bool HF.out,Lib.hid (below_then HB.out HB.out.size HBn.out)⟩
      | true=>
        clear s0 s1 x0 x1 x2 x3 x4 x0d HNM HFF HBr HBy HDR
        generalize wr=wi at *
        generalize gk=go1 at *
        go_wp2_with (fail)
        go_loopg [4] i (fun k v wr=>∃ j:Nat,j≤i∧v=.int .i64 j∧Hid (j+k=i)∧Hid (∀ k,k < j→(fs.getD k z38).f0≠f.f0)∧Hid (Below w1.heap.size w1 wr))
        case atStart=>exact ⟨0,by omega,rfl,Lib.hid (by omega),Lib.hid (fun j hj=>by omega),HBn⟩
        case round=>
         clear HBn
         obtain ⟨j,hj,rfl,HJI,HJP,HBr⟩:=hrel
         obtain ⟨s0,s1⟩:=S2_blk (blkB HBr.out HBX.out)
         by_cases hlj:j < i
         ·have hjl:j < fs.length:=by omega
          obtain ⟨ad1,_,_,_,_,_,_,eA,x0,_,_,_,_,_,_,_,_,_,_⟩:=at_T38 (Kd.C_below HF1.out HBr.out) (i:Int) (by omega) (by omega)
          obtain ⟨ad2,_,_,_,_,_,_,eA2,z0,_,_,_,_,_,_,_,_,_,_⟩:=at_T38 (Kd.C_below HF1.out HBr.out) (j:Int) (by omega) (by omega)
          have e1:rd_T38 fs (i:Int)=f:=by rw [← HFR.out];simp [rd_T38]
          have e2:rd_T38 fs (j:Int)=fs.getD j z38:=by simp [rd_T38]
          rw [e1,Int.toNat_natCast] at x0
          rw [e2,Int.toNat_natCast] at z0
          obtain rfl:=Option.some.inj eA
          obtain rfl:=Option.some.inj eA2
          obtain ⟨q,hq⟩:∃ q,((fs.getD j z38).f0.toList == f.f0.toList)=q:=⟨_,rfl⟩
          obtain ⟨nm,hnm⟩:∃ nm,nm=(fs.getD j z38).f0:=⟨_,rfl⟩
          rw [← hnm] at z0 hq
          have HQ:=Lib.hid hq
          have HNMJ:=Lib.hid hnm.symm
          clear hnm
          have hji:(j:Int) < (fs.length:Int):=by omega
          have hii:(i:Int) < (fs.length:Int):=by omega
          have t1:=eq_true hji
          have t2:=eq_true hii
          clear e1 e2 eA eA2 hji hii
          have hvb:=HSZ.out.n
          go_upto_region 9 with (fail)
          go_quiet (fail)
          have HBq:=Lib.hid (pw_below_drewN HBr.out nq)
          cases q with
          | true=>
            have hsame:nm=f.f0:=by
             have h:=beq_iff_eq.1 HQ.out
             rw [ByteArray.toList_eq,ByteArray.toList_eq] at h
             exact toList_inj h
            have HF:=Lib.hid (HNO.out (by
             rw [HROW.out,decide_eq_false (fun h=>h j hlj (by rw [HNMJ.out];exact hsame))]
             rfl))
            clear hsame
            go_wp2_with (fail)
            go_ret
            exact ⟨ret_bool HF.out,Lib.hid (below_then HB.out HB.out.size HBq.out)⟩
          | false=>
            have hdiff:nm≠f.f0:=fun e=>by
             have h:=HQ.out
             rw [e] at h
             simp at h
            have HD:=Lib.hid hdiff
            clear hdiff
            go_wp2_with (fail)
            go_roundg (gk - 1)
            case measure=>have:=HJI.out;omega
            case rel=>exact ⟨j+1,by omega,by go_num,Lib.hid (by have:=HJI.out;omega),Lib.hid (fun k hk=>by
             by_cases e:k=j
             ·rw [e,HNMJ.out];exact HD.out
             ·exact HJP.out k (by omega)),HBq⟩
         ·have hje:j=i:=by omega
          subst hje
          have HR:Hid (rowB fs j=true):=Lib.hid (by rw [HROW.out,decide_eq_true HJP.out];rfl)
          have hvb:=HSZ.out.n
          clear hlj hj HJI HJP
          go_wp2_with (fail)
          go_roundg (go1 - 1)
          case measure=>have:=HI.out;omega
          case rel=>exact ⟨j+1,by omega,by go_num,Lib.hid (by have:=HI.out;omega),Lib.hid (fun k hk=>by
           by_cases e:k=j
           ·rw [e];exact HR.out
           ·exact HP.out k (by omega)),HBr⟩
  ·have hie:i=fs.length:=by omega
   subst hie
   have HX:Hid (Z=(decide (0≤mn) && (decide (mn < (fs.length:Int)) && (((rd_T38 fs mn).f1.length:Int) == 0 && (rd_T38 fs mn).f2 == 0)))):=Lib.hid (by
    rw [HZ.out,formedB_main (List.all_eq_true.2 (fun j hj=>HP.out j (List.mem_range.1 hj)))]
    rfl)
   clear hlt hi HI HP
   by_cases h0:0≤mn
   ·have d0:decide (mn ≥ 0)=true:=decide_eq_true h0
    have d1:decide (0≤mn)=true:=decide_eq_true h0
    by_cases h1:mn < (fs.length:Int)
    ·have d2:decide (mn < (fs.length:Int))=true:=decide_eq_true h1
     obtain ⟨ad,A1,c1,A3,c3,A4,c4,eA,x0,x1,x2,x3,x4,l1,i1,l3,i3,l4,i4⟩:=at_T38 (Kd.C_below HF1.out HBr.out) mn h0 h1
     generalize rd_T38 fs mn=f at *
     obtain ⟨q1,hq1⟩:∃ q,((f.f1.length:Int) == 0)=q:=⟨_,rfl⟩
     obtain ⟨q2,hq2⟩:∃ q,(f.f2 == 0)=q:=⟨_,rfl⟩
     rw [d1,d2,hq1,hq2] at HX
     have t0:=eq_true h0
     have t1:=eq_true h1
     subst eA
     clear x0 x3 x4 l1 i1 l3 i3 l4 i4 h0 h1
     cases q1
     all_goals
      go_wp2_with (fail)
      go_ret
      exact ⟨ret_bool (by rw [HX.out];simp),Lib.hid (below_then HB.out HB.out.size HBr.out)⟩
    ·have d2:decide (mn < (fs.length:Int))=false:=decide_eq_false h1
     have HF:Hid (false=Z):=Lib.hid (by rw [HX.out,d2];simp)
     clear h0 h1
     go_wp2_with (fail)
     go_ret
     exact ⟨ret_bool HF.out,Lib.hid (below_then HB.out HB.out.size HBr.out)⟩
   ·have d0:decide (mn ≥ 0)=false:=decide_eq_false h0
    have d1:decide (0≤mn)=false:=decide_eq_false h0
    have HF:Hid (false=Z):=Lib.hid (by rw [HX.out,d1];rfl)
    clear h0
    go_wp2_with (fail)
    go_ret
    exact ⟨ret_bool HF.out,Lib.hid (below_then HB.out HB.out.size HBr.out)⟩
end Go.Proofs.Ytgbeliajhccndaa
end
section
set_option linter.unusedVariables false
set_option linter.unusedSimpArgs false
namespace Go.Proofs.Ytgbeliajhccndaa
open Go.RowKit Go.Proofs.YtgbeliajhccndaaW.PrintWords Go.Proofs.YtgbeliajhccndaaW.PrintLast Go.Proofs.YtgbeliajhccndaaW.PrintMore PP
theorem ckH_of {fs:List S38} {mn:Int} (h:formedB fs mn=true) {i:Nat} (hi:i < fs.length) (hL:LimF (rd_T38 fs (i:Int))) (hb:(rd_T38 fs (i:Int)).f4.length≤400000):CkH fs (rd_T38 fs (i:Int)):=
 ⟨formedB_fun h hi,hL,hb,fun g hg=>by
  obtain ⟨j,hj,e⟩:=List.mem_iff_getElem.1 hg
  have h1:=(rng_of (formedB_fun h hj)).par
  have e2:rd_T38 fs (j:Int)=g:=by simp [rd_T38,List.getD_eq_getElem?_getD,hj,e]
  rw [e2] at h1
  exact h1⟩
set_option maxRecDepth 100000 in
set_option maxHeartbeats 4000000 in
theorem rCheck_any (fs:List S38) (mn:Int) (A:Option Addr) (c:Nat) (w:World) (hfs:k38.C w A fs.length fs) (hc:fs.length≤c) (hS:SzH fs) (hb:∀ f ∈ fs,f.f4.length≤400000) :
 Calls Try.prog 13 #[.agg #[.slice A fs.length c,.int .i64 mn]] w fun e W=>e=.returned (.int .i64 (checkE fs mn))∧Hid (Below w.heap.size w W):=by
 obtain ⟨Z,hZ⟩:∃ Z,Z=checkE fs mn:=⟨_,rfl⟩
 have HZ:=Lib.hid hZ
 rw [← hZ]
 have HFS:=Lib.hid hfs
 have HC:=Lib.hid hc
 have HSZ:=Lib.hid hS
 have HBK:=Lib.hid hb
 clear hfs hc hS hZ hb
 go_enter Try.func13,Try.ntmps13
 go_upto_region 1 with (fail)
 obtain ⟨w1,hw1⟩:∃ w1,w1=w.alloc (.cells #[.slice A fs.length c,.int .i64 mn] 24):=⟨_,rfl⟩
 obtain ⟨g,hg⟩:∃ g,g=w.heap.size:=⟨_,rfl⟩
 have hbx:w1.heap[g]?=some (.cells #[.slice A fs.length c,.int .i64 mn] 24 (0,0)):=by rw [hw1,hg];exact blk_new w _
 have hB:Below w.heap.size w w1:=by rw [hw1];exact below_alloc (Below.refl _ _) _
 rw [← hg,← hw1]
 have HBX:=Lib.hid hbx
 have HB:=Lib.hid hB
 have HF1:=Lib.hid (Kd.C_below HFS.out hB)
 have HFM:=Lib.hid (rformed_any fs mn A c w1 HF1.out HC.out HSZ.out)
 obtain ⟨fb,hfb⟩:∃ fb,fb=formedB fs mn:=⟨_,rfl⟩
 have HFB:=Lib.hid hfb
 rw [← hfb] at HFM
 obtain ⟨s0,s1⟩:=S2_blk hbx
 clear hw1 hg hbx hB hfb
 go_upto_if 7 with (first | (go_at_call 27;with_reducible refine Calls.mono HFM.out ?_;rintro e w2 ⟨rfl,HB2⟩) | (go_at_call 27;refine stop_intro ?_))
 clear s0 s1 HFM
 cases fb with
 | false=>
   have HN:Hid ((90:Int)=Z):=Lib.hid (by rw [HZ.out];unfold checkE;rw [← HFB.out];rfl)
   go_wp2_with (fail)
   go_ret
   exact ⟨ret_i HN.out,Lib.hid (below_then HB.out HB.out.size HB2.out)⟩
 | true=>
   have HZF:Hid (Z=firstE fs mn fs):=Lib.hid (by rw [HZ.out];unfold checkE;rw [← HFB.out];rfl)
   obtain ⟨s0,s1⟩:=S2_blk (blkB HB2.out HBX.out)
   go_wp2_with (fail)
   go_loopg [3] fs.length (fun k v wr=>∃ i:Nat,i≤fs.length∧v=.int .i64 i∧Hid (i+k=fs.length)∧Hid (Z=firstE fs mn (fs.drop i))∧Hid (Below w1.heap.size w1 wr))
   case atStart=>exact ⟨0,by omega,rfl,Lib.hid (by omega),HZF,HB2⟩
   case round=>
    clear HB2 s0 s1
    obtain ⟨i,hi,rfl,HI,HP,HBr⟩:=hrel
    obtain ⟨s0,s1⟩:=S2_blk (blkB HBr.out HBX.out)
    by_cases hlt:i < fs.length
    ·obtain ⟨ad,A1,c1,A3,c3,A4,c4,eA,x0,x1,x2,x3,x4,l1,i1,l3,i3,l4,i4⟩:=at_T38 (Kd.C_below HF1.out HBr.out) (i:Int) (by omega) (by omega)
     have hfr:rd_T38 fs (i:Int)=fs.getD i z38:=by simp [rd_T38]
     have hfm:rd_T38 fs (i:Int) ∈ fs:=by rw [hfr];exact mem_getD z38 hlt
     simp only [Int.toNat_natCast] at x0 x1 x2 x3 x4
     have hck:=ckH_of HFB.out.symm hlt (HSZ.out.lim _ hfm) (HBK.out _ hfm)
     have HNX:=Lib.hid (firstE_step (fs:=fs) (mn:=mn) hlt)
     rw [← hfr] at HNX
     generalize rd_T38 fs (i:Int)=f at *
     obtain ⟨E,hE⟩:∃ E,E=funcE (dOf fs mn f):=⟨_,rfl⟩
     rw [← hE] at HNX
     have HCK:Hid (∀ W:World,Below wr.heap.size wr W→Calls Try.prog 28 #[.agg #[.slice A fs.length c,.int .i64 mn],.agg #[.string f.f0,.slice A1 f.f1.length c1,.int .i64 f.f2,.slice A3 f.f3.length c3,.slice A4 f.f4.length c4]] W fun e w'=>e=.returned (.int .i64 E)∧Hid (Below W.heap.size W w')):=Lib.hid (fun W hW=>by
      rw [hE]
      exact rcheck_any fs mn A c f A1 c1 A3 c3 A4 c4 W (Kd.C_below HF1.out (below_then HBr.out HBr.out.size hW)) HC.out ⟨l1,Kd.C_below i1 hW,l3,Kd.C_below i3 hW,l4,Kd.C_below i4 hW⟩ hck)
     have HDR:Hid (Below wr.heap.size wr wr.drew):=Lib.hid (below_drew (Below.refl _ _))
     subst eA
     have hvb:=HSZ.out.n
     clear hE hck hfm hfr l1 i1 l3 i3 l4 i4
     go_upto_region 6 with (fail)
     go_cut [4] (fun v wx=>v=.int .i64 E∧Hid (Below wr.heap.size wr wx))
     case first=>
      go_region_with (first | (go_at_call 28;with_reducible refine Calls.mono (HCK.out _ HDR.out) ?_;rintro e w4 ⟨rfl,HB4⟩) | (go_at_call 28;refine stop_intro ?_))
      all_goals
       go_wp2_with (fail)
       go_meet
       exact ⟨rfl,Lib.hid (undrew HB4.out)⟩
     case rest=>
      obtain ⟨rfl,HBy⟩:=hcut
      have HBn:=Lib.hid (below_then HBr.out HBr.out.size HBy.out)
      clear HCK HDR s0 s1 x0 x1 x2 x3 x4 HBy
      by_cases hE0:E=0
      ·have e1:(E != 0)=false:=by simp [hE0]
       have HN:Hid (Z=firstE fs mn (fs.drop (i+1))):=Lib.hid (by rw [HP.out,HNX.out,if_neg (by simp [hE0])])
       clear hE0
       go_wp2_with (fail)
       go_roundg (gk - 1)
       case measure=>have:=HI.out;omega
       case rel=>exact ⟨i+1,by omega,by go_num,Lib.hid (by have:=HI.out;omega),HN,HBn⟩
      ·have e1:(E != 0)=true:=by simp [hE0]
       have HN:Hid (E=Z):=Lib.hid (by rw [HP.out,HNX.out,if_pos hE0])
       clear hE0
       go_wp2_with (fail)
       go_ret
       exact ⟨ret_i HN.out,Lib.hid (below_then HB.out HB.out.size HBn.out)⟩
    ·have hie:i=fs.length:=by omega
     subst hie
     have HN:Hid ((0:Int)=Z):=Lib.hid (by rw [HP.out,List.drop_eq_nil_of_le (by omega)];rfl)
     clear hlt hi HI HP
     go_wp2_with (fail)
     go_ret
     exact ⟨ret_i HN.out,Lib.hid (below_then HB.out HB.out.size HBr.out)⟩
end Go.Proofs.Ytgbeliajhccndaa
end
section
set_option linter.unusedVariables false
set_option linter.unusedSimpArgs false
namespace Go.Proofs.Ytgbeliajhccndaa
open Go.RowKit Go.Proofs.YtgbeliajhccndaaW.PrintWords Go.Proofs.YtgbeliajhccndaaW.PrintLast Go.Proofs.YtgbeliajhccndaaW.PrintMore PP
def AnsB (e:Ending):Prop:=∃ b:Bool,e=.returned (.bool b)
theorem AnsB.out {e:Ending} (h:AnsB e):∃ b:Bool,e=.returned (.bool b):=h
set_option maxRecDepth 100000 in
set_option maxHeartbeats 8000000 in
theorem small_any (fs:List S38) (A:Option Addr) (c:Nat) (m:Int) (w:World) (hC:k38.C w A fs.length fs) (hc:fs.length≤c) (hn:fs.length≤1000000000) (hL:∀ f ∈ fs,LimF f) :
 Calls Try.prog 10 #[.agg #[.slice A fs.length c,.int .i64 m]] w fun e W=>AnsB e∧Hid (Below w.heap.size w W):=by
 have HC:=Lib.hid hC
 have HCC:=Lib.hid hc
 have HL:=Lib.hid hL
 have HNN:=Lib.hid hn
 clear hC hc hL hn
 go_enter Try.func10,Try.ntmps10
 go_upto_region 1 with (fail)
 obtain ⟨wa,hwa⟩:∃ wa,wa=w.alloc (.cells #[.slice A fs.length c,.int .i64 m] 24):=⟨_,rfl⟩
 obtain ⟨gS,hgS⟩:∃ gS,gS=w.heap.size:=⟨_,rfl⟩
 have hBa:Below w.heap.size w wa:=by rw [hwa];exact below_alloc (Below.refl _ _) _
 have hSa:wa.heap[gS]?=some (.cells #[.slice A fs.length c,.int .i64 m] 24 (0,0)):=by rw [hwa,hgS];exact blk_new w _
 rw [← hgS,← hwa]
 have HBa:=Lib.hid hBa
 have HSa:=Lib.hid hSa
 clear hwa hgS hBa hSa
 go_wp2_with (fail)
 go_loopg [3,4] fs.length (fun k v3 v4 wr=>∃ (n:Int) (i:Nat),i≤fs.length∧v3=.int .i64 n∧v4=.int .i64 i∧Hid (i+k=fs.length)∧Hid (Below w.heap.size w wr)∧Hid (wr.heap[gS]?=some (.cells #[.slice A fs.length c,.int .i64 m] 24 (0,0))))
 case atStart=>exact ⟨0,0,by omega,rfl,rfl,Lib.hid (by omega),HBa,HSa⟩
 case round=>
  clear HBa HSa
  obtain ⟨n,i,hi,rfl,rfl,HI,HB,HSB⟩:=hrel
  have s0:=(S2_blk HSB.out).1
  have s1:=(S2_blk HSB.out).2
  by_cases hlt:i < fs.length
  ·obtain ⟨f,hf⟩:∃ f,f=fs.getD i z38:=⟨_,rfl⟩
   have hfr:rd_T38 fs (i:Int)=f:=by rw [hf];rfl
   have hfm:f ∈ fs:=by rw [hf];exact mem_getD z38 hlt
   have HLF:=Lib.hid (HL.out f hfm)
   obtain ⟨ad,A1,c1,A3,c3,A4,c4,eA,x0,x1,x2,x3,x4,l1,i1,l3,i3,l4,i4⟩:=at_T38 (Kd.C_below HC.out HB.out) (i:Int) (by omega) (by omega)
   rw [hfr] at x0 x1 x2 x3 x4 l1 i1 l3 i3 l4 i4
   simp only [Int.toNat_natCast] at x0 x1 x2 x3 x4
   have I3:=Lib.hid i3
   have I4:=Lib.hid i4
   subst eA
   clear l1 i1 l3 i3 l4 i4 hfr hf hfm
   go_upto_region 6 with (fail)
   obtain ⟨wb,hwb⟩:∃ wb,wb=wr.alloc (.cells #[.string f.f0,.slice A1 f.f1.length c1,.int .i64 f.f2,.slice A3 f.f3.length c3,.slice A4 f.f4.length c4] 38):=⟨_,rfl⟩
   obtain ⟨gf,hgf⟩:∃ gf,gf=wr.heap.size:=⟨_,rfl⟩
   have hBb:Below wr.heap.size wr wb:=by rw [hwb];exact below_alloc (Below.refl _ _) _
   have hFb:wb.heap[gf]?=some (.cells #[.string f.f0,.slice A1 f.f1.length c1,.int .i64 f.f2,.slice A3 f.f3.length c3,.slice A4 f.f4.length c4] 38 (0,0)):=by rw [hwb,hgf];exact blk_new wr _
   rw [← hgf,← hwb]
   have HBb:=Lib.hid hBb
   have HFb:=Lib.hid hFb
   obtain ⟨y0,y1,y2,y3,y4⟩:=S5_blk hFb
   clear hwb hgf hBb hFb s0 s1 x0 x1 x2 x3 x4
   generalize wr=wi at *
   generalize gk=go at *
   go_wp2_with (fail)
   go_loopg [3,6] f.f3.length (fun k v3 v6 wv=>∃ (n:Int) (j:Nat),j≤f.f3.length∧v3=.int .i64 n∧v6=.int .i64 j∧Hid (j+k=f.f3.length)∧Hid (Below wi.heap.size wi wv)∧Hid (wv.heap[gf]?=some (.cells #[.string f.f0,.slice A1 f.f1.length c1,.int .i64 f.f2,.slice A3 f.f3.length c3,.slice A4 f.f4.length c4] 38 (0,0))))
   case atStart=>exact ⟨_,0,by omega,rfl,rfl,Lib.hid (by omega),HBb,HFb⟩
   case round=>
    clear HBb HFb y0 y1 y2 y3 y4
    obtain ⟨n,j,hj,rfl,rfl,HJ,HBe,HFe⟩:=hrel
    have y3:=(S5_blk HFe.out).2.2.2.1
    have y4:=(S5_blk HFe.out).2.2.2.2
    have hvb:=HLF.out.v
    by_cases hg:j < f.f3.length∧n≤2000000
    ·obtain ⟨hjl,hnl⟩:=hg
     have d1:decide (n≤2000000)=true:=decide_eq_true hnl
     obtain ⟨ad3,A5,c5,eA3,x0,x1,x2,x3,l5,i5⟩:=at_T42 (Kd.C_below I3.out HBe.out) (j:Int) (by omega) (by omega)
     simp only [Int.toNat_natCast] at x0 x1 x2 x3
     subst eA3
     clear l5 i5 x0 x1 x2 hnl
     go_wp2_with (fail)
     go_roundg (gk - 1)
     case measure=>have:=HJ.out;omega
     case rel=>exact ⟨_,j+1,by omega,rfl,by go_num,Lib.hid (by have:=HJ.out;omega),HBe,HFe⟩
    ·have hk:decide (j < f.f3.length)=false∨decide (j < f.f3.length)=true∧decide (n≤2000000)=false:=by
      by_cases h:j < f.f3.length
      ·exact .inr ⟨decide_eq_true h,decide_eq_false (fun h2=>hg ⟨h,h2⟩)⟩
      ·exact .inl (decide_eq_false h)
     clear hg
     have HBf:=HBe
     have HFf:=HFe
     clear HBe HFe
     rcases hk with hk | ⟨hk,d1⟩
     all_goals
      first
       | have hjl:=of_decide_eq_false hk
       | have hjl:=of_decide_eq_true hk
      clear hk
      go_wp2_with (fail)
      go_loopg [3,7] f.f4.length (fun k v3 v7 wv=>∃ (n:Int) (q:Nat),q≤f.f4.length∧v3=.int .i64 n∧v7=.int .i64 q∧Hid (q+k=f.f4.length)∧Hid (Below wi.heap.size wi wv)∧Hid (wv.heap[gf]?=some (.cells #[.string f.f0,.slice A1 f.f1.length c1,.int .i64 f.f2,.slice A3 f.f3.length c3,.slice A4 f.f4.length c4] 38 (0,0))))
      case atStart=>exact ⟨n,0,by omega,rfl,rfl,Lib.hid (by omega),HBf,HFf⟩
      case round=>
       clear HBf HFf y3 y4
       try clear d1
       obtain ⟨n2,q,hq,rfl,rfl,HQ,HBe,HFe⟩:=hrel
       have y4:=(S5_blk HFe.out).2.2.2.2
       have hbb:=HLF.out.b
       by_cases hg:q < f.f4.length∧n2≤2000000
       ·obtain ⟨hql,hnl⟩:=hg
        have d1:decide (n2≤2000000)=true:=decide_eq_true hnl
        obtain ⟨ad3,B0,d0,B1,e1,B4,d4,B5,d5,eA3,x0,x1,x2,x3,x4,x5,l0,i0,l1,i1,l4,i4,l5,i5⟩:=at_T46 (Kd.C_below I4.out HBe.out) (q:Int) (by omega) (by omega)
        simp only [Int.toNat_natCast] at x0 x1 x2 x3 x4 x5
        subst eA3
        clear l0 i0 l1 i1 l4 i4 l5 i5 hnl
        obtain ⟨x,hx⟩:∃ x,x=rd_T46 f.f4 (q:Int):=⟨_,rfl⟩
        rw [← hx] at x0 x1 x2 x3 x4 x5
        clear hx
        go_upto_region 15 with (fail)
        obtain ⟨z0,z1,z2,z3,z4,z5⟩:=S6_blk (blk_new wr (.cells #[.slice B0 x.f0.length d0,.slice B1 x.f1.length e1,.int .i64 x.f2.f0,.int .i64 x.f2.f1,.slice B4 x.f2.f2.length d4,.slice B5 x.f3.length d5] 46))
        go_wp2_with (fail)
        go_roundg (gk - 1)
        case measure=>have:=HQ.out;omega
        case rel=>exact ⟨_,q+1,by omega,rfl,by go_num,Lib.hid (by have:=HQ.out;omega),Lib.hid (below_alloc HBe.out _),Lib.hid (blkB (below_alloc (Below.refl _ _) _) HFe.out)⟩
       ·have HX:=Lib.hid (below_then HB.out HB.out.size HBe.out)
        have HY:=Lib.hid (blkB HBe.out HSB.out)
        have HG:=Lib.hid hg
        clear hg
        by_cases hn2:n2≤2000000
        ·have d2:decide (2000000 < n2)=false:=decide_eq_false (by omega)
         have d3:decide (n2 > 2000000)=false:=d2
         have hql:¬ q < f.f4.length:=fun h=>HG.out ⟨h,hn2⟩
         have hbd:=HNN.out
         clear hn2 HG
         go_wp2_with (fail)
         go_roundg (go - 1)
         case measure=>have:=HI.out;omega
         case rel=>exact ⟨n2,i+1,by omega,rfl,by go_num,Lib.hid (by have:=HI.out;omega),HX,HY⟩
        ·have d1:decide (n2≤2000000)=false:=decide_eq_false hn2
         have d2:decide (2000000 < n2)=true:=decide_eq_true (by omega)
         have d3:decide (n2 > 2000000)=true:=d2
         clear hn2 HG
         by_cases hql:q < f.f4.length
         all_goals
          go_wp2_with (fail)
          go_ret
          exact ⟨⟨_,rfl⟩,HX⟩
  ·have hie:i=fs.length:=by omega
   subst hie
   clear hlt hi HI
   go_wp2_with (fail)
   go_ret
   exact ⟨⟨_,rfl⟩,HB⟩
end Go.Proofs.Ytgbeliajhccndaa
end
section
set_option linter.unusedVariables false
set_option linter.unusedSimpArgs false
namespace Go.Proofs.Ytgbeliajhccndaa
open Go.RowKit Go.Proofs.YtgbeliajhccndaaW.PrintWords Go.Proofs.YtgbeliajhccndaaW.PrintLast Go.Proofs.YtgbeliajhccndaaW.PrintMore PP
theorem le_below {w W W':World} {gL g cap:Nat} {ps:List S38} {m:Int} (h:Le w W gL g cap ps m) (hb:Below W.heap.size W W'):Le w W' gL g cap ps m:=
 ⟨below_then h.below h.below.size hb,blkB hb h.lb,h.gl,Kd.R_below h.rf hb⟩
theorem szH_of {ps:List S38} (h:SizeH ps):SzH ps:=⟨h.n,h.lim,h.name⟩
set_option maxRecDepth 100000 in
set_option maxHeartbeats 8000000 in
theorem SSASame_any (ps us:List S38) (A AU:Option Addr) (c cU:Nat) (m mU:Int) (w:World) (hC:k38.C w A ps.length ps) (hc:ps.length≤c) (hCU:k38.C w AU us.length us) (hcU:us.length≤cU) (hS:SizeH ps) (hU:SizeH us) :
 Calls Try.prog 4 #[.agg #[.slice A ps.length c,.int .i64 m],.agg #[.slice AU us.length cU,.int .i64 mU]] w fun e w'=>e=.returned (.bool true)∧Below w.heap.size w w':=by
 have HC:=Lib.hid hC
 have HCC:=Lib.hid hc
 have HCU:=Lib.hid hCU
 have HCCU:=Lib.hid hcU
 have HS:=Lib.hid hS
 have HU:=Lib.hid hU
 have HLV:=Lib.hid alive_any
 clear hC hc hCU hcU hS hU
 go_enter Try.func4,Try.ntmps4
 go_upto_region 1 with (fail)
 obtain ⟨wa,hwa⟩:∃ wa,wa=(w.alloc (.cells #[.slice A ps.length c,.int .i64 m] 24)).alloc (.cells #[.slice AU us.length cU,.int .i64 mU] 24):=⟨_,rfl⟩
 obtain ⟨gS,hgS⟩:∃ gS,gS=w.heap.size:=⟨_,rfl⟩
 obtain ⟨gU,hgU⟩:∃ gU,gU=w.heap.size+1:=⟨_,rfl⟩
 have hBa:Below w.heap.size w wa:=by rw [hwa];exact below_alloc (below_alloc (Below.refl _ _) _) _
 have hSa:wa.heap[gS]?=some (.cells #[.slice A ps.length c,.int .i64 m] 24 (0,0)):=by rw [hwa,hgS];exact blkB (below_alloc (Below.refl _ _) _) (blk_new w _)
 have hUa:wa.heap[gU]?=some (.cells #[.slice AU us.length cU,.int .i64 mU] 24 (0,0)):=by
  subst hwa hgU
  have h:=blk_new (w.alloc (.cells #[.slice A ps.length c,.int .i64 m] 24)) (.cells #[.slice AU us.length cU,.int .i64 mU] 24)
  rw [size_alloc'] at h
  exact h
 rw [← hgU,← hgS,← hwa]
 have HBa:=Lib.hid hBa
 have HSa:=Lib.hid hSa
 have HUa:=Lib.hid hUa
 clear hwa hgS hgU hBa hSa hUa
 go_upto_region 2 with (first | (go_at_call 9;with_reducible refine Calls.mono (HLV.out _) ?_;rintro e w1 ⟨rfl,hb1⟩;have HB1:=Lib.hid hb1;clear hb1) | (go_at_call 9;refine stop_intro ?_))
 have HBb:=Lib.hid (below_then HBa.out HBa.out.size HB1.out)
 have HS1:=Lib.hid (blkB HB1.out HSa.out)
 have HU1:=Lib.hid (blkB HB1.out HUa.out)
 have s0:=(S2_blk HS1.out).1
 have s1:=(S2_blk HS1.out).2
 have HSM:=Lib.hid (small_any ps A c m w1 (Kd.C_below HC.out HBb.out) HCC.out HS.out.n HS.out.lim)
 clear HB1 HSa HUa HBa HLV
 go_upto_region 3 with (first | (go_at_call 10;with_reducible refine Calls.mono HSM.out ?_;rintro e w2 ⟨hq,HB2⟩;obtain ⟨bs,rfl⟩:=hq.out) | (go_at_call 10;refine stop_intro ?_))
 have HBc:=Lib.hid (below_then HBb.out HBb.out.size HB2.out)
 have HS2:=Lib.hid (blkB HB2.out HS1.out)
 have HU2:=Lib.hid (blkB HB2.out HU1.out)
 clear s0 s1 HSM HB2 HS1 HU1 HBb
 have s0:=(S2_blk HU2.out).1
 have s1:=(S2_blk HU2.out).2
 have HSM:=Lib.hid (small_any us AU cU mU w2 (Kd.C_below HCU.out HBc.out) HCCU.out HU.out.n HU.out.lim)
 go_upto_region 4 with (first | (go_at_call 10;with_reducible refine Calls.mono HSM.out ?_;rintro e w3 ⟨hq,HB3⟩;obtain ⟨bu,rfl⟩:=hq.out) | (go_at_call 10;refine stop_intro ?_))
 have HBd:=Lib.hid (below_then HBc.out HBc.out.size HB3.out)
 have HS3:=Lib.hid (blkB HB3.out HS2.out)
 have HU3:=Lib.hid (blkB HB3.out HU2.out)
 clear s0 s1 HSM HB3 HS2 HU2 HBc
 have s0:=(S2_blk HS3.out).1
 have s1:=(S2_blk HS3.out).2
 have t0:=(S2_blk HU3.out).1
 have t1:=(S2_blk HU3.out).2
 cases bs with
 | false=>
   go_wp2_with (fail)
   go_ret
   exact ⟨rfl,HBd.out⟩
 | true=>
 cases bu with
 | false=>
   go_wp2_with (fail)
   go_ret
   exact ⟨rfl,HBd.out⟩
 | true=>
 by_cases hne:ps.length=us.length
 case neg=>
  have d1:decide ((ps.length:Int)=(us.length:Int))=false:=decide_eq_false (by omega)
  have d2:((ps.length:Int) == (us.length:Int))=false:=by simp;omega
  have d3:((ps.length:Int) != (us.length:Int))=true:=by simp;omega
  go_wp2_with (fail)
  go_ret
  exact ⟨rfl,HBd.out⟩
 case pos=>
  have d1:decide ((ps.length:Int)=(us.length:Int))=true:=decide_eq_true (by omega)
  have d2:((ps.length:Int) == (us.length:Int))=true:=by simp;omega
  have d3:((ps.length:Int) != (us.length:Int))=false:=by simp;omega
  have HN:=Lib.hid hne
  clear hne
  have HLT:=Lib.hid (lent_any w3 ps A c m (Kd.C_below HC.out HBd.out) HS.out.n HS.out.lim)
  go_upto_region 6 with (fail)
  clear d1 d2 d3 t0 t1
  go_upto_region 8 with (first | (go_at_call 11;with_reducible refine Calls.mono HLT.out ?_;rintro e w4 ⟨gL,g,cap,rfl,HLE⟩;have HCK:=Lib.hid (le_check HLE.out HS.out);have l0:=(S2_blk HLE.out.lb).1;have l1:=(S2_blk HLE.out.lb).2) | (go_at_call 12;with_reducible refine Calls.mono HCK.out ?_;rintro e w5 ⟨rfl,hb⟩;have HB5:=Lib.hid hb;clear hb) | (go_at_call 12;refine stop_intro ?_))
  clear HLT s0 s1 l0 l1 HCK
  have HLF:Hid (Le w3 w5 gL g cap ps m):=Lib.hid (le_below HLE.out HB5.out)
  have HCK:=Lib.hid (le_check HLF.out HS.out)
  have l0:=(S2_blk HLF.out.lb).1
  have l1:=(S2_blk HLF.out.lb).2
  clear HLE HB5
  go_upto_region 9 with (first | (go_at_call 12;with_reducible refine Calls.mono HCK.out ?_;rintro e w6 ⟨rfl,hb⟩;have HB6:=Lib.hid hb;clear hb) | (go_at_call 12;refine stop_intro ?_))
  clear l0 l1 HCK
  have HBe:=Lib.hid (below_then HBd.out HBd.out.size (below_then HLF.out.below HLF.out.below.size HB6.out))
  have HB36:=Lib.hid (below_then HLF.out.below HLF.out.below.size HB6.out)
  have HS6:=Lib.hid (blkB HB36.out HS3.out)
  have HU6:=Lib.hid (blkB HB36.out HU3.out)
  have t0:=(S2_blk HU6.out).1
  have t1:=(S2_blk HU6.out).2
  have HLT:=Lib.hid (lent_any w6 us AU cU mU (Kd.C_below HCU.out HBe.out) HU.out.n HU.out.lim)
  go_upto_region 10 with (first | (go_at_call 11;with_reducible refine Calls.mono HLT.out ?_;rintro e w7 ⟨gM,gN,cp,rfl,HLG⟩) | (go_at_call 11;refine stop_intro ?_))
  have HSM:Hid (Sm w3 w6 w7 gL gM g cap gN cp us.length m mU ps us 0):=Lib.hid (Sm.init HLF.out HB6.out HLG.out HN.out rfl)
  clear HLT t0 t1 HLG HB6 HLF HB36 HS6 HU6 HBe
  go_wp2_with (fail)
  go_loopg [12] us.length (fun k v12 wr=>∃ i:Nat,i≤us.length∧v12=.int .i64 i∧Hid (i+k=us.length)∧Hid (Sm w3 w6 wr gL gM g cap gN cp us.length m mU ps us i))
  case atStart=>exact ⟨0,by omega,rfl,Lib.hid (by omega),HSM⟩
  case round=>
   clear HSM
   obtain ⟨i,hi,rfl,HI,HSM⟩:=hrel
   have hbd:us.length≤1000000000:=HU.out.n
   have l0:=(S2_blk HSM.out.lb).1
   have l1:=(S2_blk HSM.out.lb).2
   by_cases hlt:i < us.length
   ·obtain ⟨s,A1,n1,c1,r,A3,n3,c3,A4,n4,c4,u0,u1,u2,u3,u4,⟨x0,x1,x2,x3,x4⟩,⟨y0,y1,y2,y3,y4⟩,⟨z0,z1,z2,z3,z4⟩,HNX⟩:=HSM.out.step hlt
    have m0:=(S2_blk HSM.out.mb).1
    have m1:=(S2_blk HSM.out.mb).2
    go_upto_region 13 with (fail)
    go_region
    go_wp2_with (fail)
    go_roundg (gk - 1)
    case measure=>have:=HI.out;omega
    case rel=>exact ⟨i+1,by omega,by go_num,Lib.hid (by have:=HI.out;omega),Lib.hid (HNX.out.then_ (below_drew (Below.refl _ _)))⟩
   ·have hie:i=us.length:=by omega
    subst hie
    have HB7:=Lib.hid (below_then HBd.out HBd.out.size HSM.out.below)
    have HS7:=Lib.hid (blkB HSM.out.below HS3.out)
    have HU7:=Lib.hid (blkB HSM.out.below HU3.out)
    have t0:=(S2_blk HU7.out).1
    have t1:=(S2_blk HU7.out).2
    obtain ⟨hb8,⟨y0,y1⟩,HCK⟩:=HSM.out.main HU.out
    have HB8:=Lib.hid hb8
    have z1:=blk_frozen HSM.out.lb 1
    clear hb8
    go_upto_region 15 with (fail)
    go_upto_region 16 with (first | (go_at_call 12;with_reducible refine Calls.mono HCK.out ?_;rintro e w9 ⟨rfl,hb⟩;have HB9:=Lib.hid hb;clear hb) | (go_at_call 12;refine stop_intro ?_))
    have HBx:=Lib.hid (below_then HB8.out HB8.out.size HB9.out)
    have HBy:=Lib.hid (below_then HBd.out HBd.out.size HBx.out)
    have HS9:=Lib.hid (blkB HBx.out HS3.out)
    have HU9:=Lib.hid (blkB HBx.out HU3.out)
    have HRS:=Lib.hid (fun W (h:Below w9.heap.size w9 W)=>rCheck_any ps m A c W (Kd.C_below HC.out (below_then HBy.out HBy.out.size h)) HCC.out (szH_of HS.out) HS.out.blk)
    have HRU:=Lib.hid (fun W (h:Below w9.heap.size w9 W)=>rCheck_any us mU AU cU W (Kd.C_below HCU.out (below_then HBy.out HBy.out.size h)) HCCU.out (szH_of HU.out) HU.out.blk)
    clear t0 t1 y0 y1 z1 l0 l1 HCK
    have s0:=(S2_blk HS9.out).1
    have s1:=(S2_blk HS9.out).2
    have t0:=(S2_blk HU9.out).1
    have t1:=(S2_blk HU9.out).2
    go_wp2_with (first | (go_at_call 13;with_reducible refine Calls.mono (HRS.out _ (Below.refl _ _)) ?_;rintro e wx ⟨rfl,HBz⟩;have t2:=(S2_blk (blkB HBz.out HU9.out)).1;have t3:=(S2_blk (blkB HBz.out HU9.out)).2) | (go_at_call 13;with_reducible refine Calls.mono (HRU.out _ HBz.out) ?_;rintro e wy ⟨rfl,HBv⟩) | (go_at_call 13;refine stop_intro ?_))
    go_ret
    exact ⟨rfl,below_then HBy.out HBy.out.size (below_then HBz.out HBz.out.size HBv.out)⟩
end Go.Proofs.Ytgbeliajhccndaa
end
