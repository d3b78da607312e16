/- Lemmas of this claim (VC). -/
import Derived.Test.YtgbeliajhccndaaKM
import Derived.Deep.RegionLaw
import Derived.Deep.RegionHeld3
set_option linter.unusedVariables false
set_option linter.unusedSimpArgs false
namespace Go.Proofs.Ytgbeliajhccndaa
open Go.RowKit Go.Proofs.YtgbeliajhccndaaW.PrintWords Go.Proofs.YtgbeliajhccndaaW.PrintLast Go.Proofs.YtgbeliajhccndaaW.PrintMore PP
def lent_T11:Bool × List (List Nat × List Nat):=(true,[([],[]),([0],[0]),([],[]),([2],[2]),([],[]),([4],[4]),([],[]),([6],[6]),([],[]),([8],[8]),([9],[9]),([3,5,7,10],[3,5,7,10]),([11],[11]),([1,12,10],[1,12]),([0,1,2,3,4,5,6,7,8,9,10,11,12,13],[]),([14,13,13,0,1,2,3,4,5,6,7,8,9,10,11,12,13],[13,14])])
def lent_B11:List Nat:=[0,1,0,4,0,16,0,64,0,256,768,2044,4092,8191,16383,32767]
theorem lent_tab11:rtab .any (opsOf Try.f11 11) = lent_T11:=by kernel_rfl
theorem lent_bits11:waitsOk lent_T11.2 lent_B11 = true:=by kernel_rfl
def lent_T12:Bool × List (List Nat × List Nat):=(true,[([],[]),([0],[0]),([],[]),([2],[2]),([1,3],[1,3]),([],[]),([5],[5]),([6],[6]),([4,7],[4,7]),([0,1,2,3,4,5,6,7,8],[]),([9,8,4,0,1,2,3,4,5,6,7,8],[8,9])])
def lent_B12:List Nat:=[0,1,0,4,15,0,32,96,255,511,1023]
theorem lent_tab12:rtab .any (opsOf Try.f11 12) = lent_T12:=by kernel_rfl
theorem lent_bits12:waitsOk lent_T12.2 lent_B12 = true:=by kernel_rfl
def lent_T17:Bool × List (List Nat × List Nat):=(true,[([],[]),([0],[0]),([],[]),([2],[2]),([3],[3]),([],[]),([5],[5]),([6,4],[6]),([],[]),([8],[8]),([9,7],[9]),([],[]),([11],[11]),([12],[12]),([],[]),([14],[14]),([15],[15]),([],[]),([17],[17]),([18],[18]),([19,10],[19]),([13,16,20],[13,16,20]),([4,7,10,21],[4,7,10,21]),([22],[22]),([1,23,20],[1,23]),([0,1,2,3,4,5,6,7,8,9,10,11,12,13,14,15,16,17,18,19,20,21,22,23,24],[]),([25,24,24,0,1,2,3,4,5,6,7,8,9,10,11,12,13,14,15,16,17,18,19,20,21,22,23,24],[24,25])])
def lent_B17:List Nat:=[0,1,0,4,12,0,32,124,0,256,1020,0,2048,6144,0,16384,49152,0,131072,393216,919548,2097148,4194300,8388604,16777215,33554431,67108863]
theorem lent_tab17:rtab .any (opsOf Try.f11 17) = lent_T17:=by kernel_rfl
theorem lent_bits17:waitsOk lent_T17.2 lent_B17 = true:=by kernel_rfl
def lent_T18:Bool × List (List Nat × List Nat):=(true,[([],[]),([0],[0]),([],[]),([2],[2]),([3],[3]),([1,4],[1,4]),([],[]),([6],[6]),([7],[7]),([5,8],[5,8]),([0,1,2,3,4,5,6,7,8,9],[]),([10,9,5,0,1,2,3,4,5,6,7,8,9],[9,10])])
def lent_B18:List Nat:=[0,1,0,4,12,31,0,64,192,511,1023,2047]
theorem lent_tab18:rtab .any (opsOf Try.f11 18) = lent_T18:=by kernel_rfl
theorem lent_bits18:waitsOk lent_T18.2 lent_B18 = true:=by kernel_rfl
def lent_T19:Bool × List (List Nat × List Nat):=(true,[([],[]),([],[]),([1],[1]),([2],[2]),([3],[3]),([4],[4]),([],[]),([6],[6]),([5,7],[5,7]),([0,0,1,2,3,4,5,6,7,8],[0]),([9,0,1,2,3,4,5,6,7,8],[9]),([10,0,1,2,3,4,5,6,7,8],[10]),([11,8,8,0,1,2,3,4,5,6,7,8],[8,11])])
def lent_B19:List Nat:=[0,0,2,6,14,30,0,64,254,511,1023,2047,4095]
theorem lent_tab19:rtab .any (opsOf Try.f11 19) = lent_T19:=by kernel_rfl
theorem lent_bits19:waitsOk lent_T19.2 lent_B19 = true:=by kernel_rfl
def lent_T20:Bool × List (List Nat × List Nat):=(true,[([],[]),([],[]),([1],[1]),([2],[2]),([3],[3]),([4],[4]),([],[]),([6],[6]),([5,7],[5,7]),([],[]),([9],[9]),([10],[10]),([8,11],[8,11]),([0,0,1,2,3,4,5,6,7,8,9,10,11,12],[0]),([13,0,1,2,3,4,5,6,7,8,9,10,11,12],[13]),([14,0,1,2,3,4,5,6,7,8,9,10,11,12],[14]),([15,12,8,0,1,2,3,4,5,6,7,8,9,10,11,12],[12,15])])
def lent_B20:List Nat:=[0,0,2,6,14,30,0,64,254,0,512,1536,4094,8191,16383,32767,65535]
theorem lent_tab20:rtab .any (opsOf Try.f11 20) = lent_T20:=by kernel_rfl
theorem lent_bits20:waitsOk lent_T20.2 lent_B20 = true:=by kernel_rfl
set_option maxRecDepth 100000 in
set_option maxHeartbeats 4000000 in
theorem lent_any (w:World) (ps:List S38) (A:Option Addr) (c:Nat) (m:Int) (hC:k38.C w A ps.length ps) (hn:ps.length ≤ 1000000000) (hL:∀ f ∈ ps,LimF f) :
 Calls Try.prog 11 #[.agg #[.slice A ps.length c,.int .i64 m]] w fun e W=>∃ gL g cap,e = .returned (.pointer (some ⟨gL,0,none⟩)) ∧ Hid (Le w W gL g cap ps m):=by
 have HC:=Lib.hid hC
 have HL:=Lib.hid hL
 have HN:=Lib.hid hn
 clear hC hL hn
 go_enter Try.func11,Try.ntmps11
 go_upto_region 2 with (fail)
 obtain ⟨wq,hwq⟩:∃ wq,wq = ((w.alloc (.cells #[.slice A ps.length c,.int .i64 m] 24)).alloc (.cells #[.slice none 0 0,.int .i64 0] 32)):=⟨_,rfl⟩
 obtain ⟨gS,hgS⟩:∃ gS,gS = w.heap.size:=⟨_,rfl⟩
 obtain ⟨gL,hgL⟩:∃ gL,gL = w.heap.size + 1:=⟨_,rfl⟩
 have HL0:Hid (Ln w wq gS gL A ps.length c m (.slice none 0 0) (tt (ps.take 0))):=Lib.hid (by
  subst hwq hgS hgL
  refine ⟨below_alloc (below_alloc (Below.refl _ _) _) _,blkB (below_alloc (Below.refl _ _) _) (blk_new w _),?_,Nat.le_succ _,Kd.R_nil _ _ _ _ _⟩
  have h:=blk_new (w.alloc (.cells #[.slice A ps.length c,.int .i64 m] 24)) (.cells #[.slice none 0 0,.int .i64 0] 32)
  rw [size_alloc'] at h
  exact h)
 rw [← hgL,← hgS,← hwq]
 clear hwq hgS hgL
 go_wp2_with (fail)
 go_loopg [4] ps.length (fun k v4 wr=>∃ (i:Nat) (AF:Option Addr) (cF:Nat),i ≤ ps.length ∧ v4 = .int .i64 i ∧ Hid (i + k = ps.length) ∧ Hid (Ln w wr gS gL A ps.length c m (.slice AF i cF) (tt (ps.take i))))
 case atStart=>exact ⟨0,none,0,by omega,rfl,Lib.hid (by omega),HL0⟩
 case round=>
  clear HL0
  obtain ⟨i,AF,cF,hi,rfl,HI,HLN⟩:=hrel
  have s0:wr.cell? ⟨gS,0,none⟩ = some (.slice A ps.length c):=(blk_cell HLN.out.sb 0).trans rfl
  by_cases hlt:i < ps.length
  ·obtain ⟨f,hf⟩:∃ f,f = ps[i]:=⟨_,rfl⟩
   have hfr:rd_T38 ps (i:Int) = f:=by unfold rd_T38;rw [Int.toNat_natCast,List.getD_eq_getElem?_getD,List.getElem?_eq_getElem hlt,hf];rfl
   have hfm:f ∈ ps:=by rw [hf];exact List.getElem_mem hlt
   have HLF:=Lib.hid (HL.out f hfm)
   have HTK:Hid (tt (ps.take (i + 1)) = tt (ps.take i) ++ [(f,true)]):=Lib.hid (by unfold tt;rw [hf,List.take_add_one,List.getElem?_eq_getElem hlt,List.map_append];rfl)
   obtain ⟨ad,A1,c1,A3,c3,A4,c4,eA,x0,x1,x2,x3,x4,l1,i1,l3,i3,l4,i4⟩:=at_T38 (Kd.C_below HC.out HLN.out.below) (i:Int) (by omega) (by omega)
   rw [hfr] at x0 x1 x2 x3 x4 l1 i1 l3 i3 l4 i4
   simp only [Int.toNat_natCast] at x0 x1 x2 x3 x4
   have I1:=Lib.hid i1
   have I3:=Lib.hid i3
   have I4:=Lib.hid i4
   subst eA
   clear l1 i1 l3 i3 l4 i4 hfr hf hfm
   go_upto_region 6 with (fail)
   obtain ⟨w1,hw1⟩:∃ w1,w1 = wr.alloc (.cells #[.string f.f0,.slice A1 f.f1.length c1,.int .i64 f.f2,.slice A3 f.f3.length c3,.slice A4 f.f4.length c4] 38):=⟨_,rfl⟩
   obtain ⟨gf,hgf⟩:∃ gf,gf = wr.heap.size:=⟨_,rfl⟩
   have hB1:Below wr.heap.size wr w1:=by rw [hw1];exact below_alloc (Below.refl _ _) _
   have hF1:w1.heap[gf]? = some (.cells #[.string f.f0,.slice A1 f.f1.length c1,.int .i64 f.f2,.slice A3 f.f3.length c3,.slice A4 f.f4.length c4] 38 (0,0)):=by rw [hw1,hgf];exact blk_new wr _
   have hG1:wr.heap.size ≤ gf:=by omega
   rw [← hgf,← hw1]
   have B1:=Lib.hid hB1
   have F1:=Lib.hid hF1
   have G1:=Lib.hid hG1
   have y0:w1.cell? ⟨gf,0,none⟩ = some (.string f.f0):=(blk_cell hF1 0).trans rfl
   have y1:w1.cell? ⟨gf,1,none⟩ = some (.slice A1 f.f1.length c1):=(blk_cell hF1 1).trans rfl
   have y2:w1.cell? ⟨gf,2,none⟩ = some (.int .i64 f.f2):=(blk_cell hF1 2).trans rfl
   have HC1:=Lib.hid (Kd.C_below I1.out hB1)
   have HL1:=Lib.hid (show f.f1.length ≤ 1000000000000 by have:=HLF.out.p;omega)
   have HNE:=Lib.hid (Nat.ne_of_lt (blk_lt F1.out))
   clear hw1 hgf hB1 hF1 hG1 s0 x0 x1 x2 x3 x4
   go_cut [6] (fun v wx=>∃ (gg gp cp:Nat),v = .pointer (some ⟨gg,0,none⟩) ∧ Hid (Lg (Kd.slice 42 f42) (Kd.slice 46 f46) wr wx gf gg #[.string f.f0,.slice A1 f.f1.length c1,.int .i64 f.f2,.slice A3 f.f3.length c3,.slice A4 f.f4.length c4] f.f0 f.f2 f.f1 (.slice (some ⟨gp,0,none⟩) f.f1.length cp) (.slice none 0 0) (.slice none 0 0) [] []))
   case first=>
    have y:=And.intro y0 (And.intro y1 y2)
    go_region_held3 (fun w'=>w'.cell? ⟨gf,0,none⟩ = some (.string f.f0) ∧ w'.cell? ⟨gf,1,none⟩ = some (.slice A1 f.f1.length c1) ∧ w'.cell? ⟨gf,2,none⟩ = some (.int .i64 f.f2)) (first | with_reducible exact y | with_reducible exact z | with_reducible exact And.intro (cellF5 z.1 HNE.out) (And.intro (cellF5 z.2.1 HNE.out) (cellF5 z.2.2 HNE.out)) | with_reducible exact ⟨cellD y.1,cellD y.2.1,cellD y.2.2⟩ | with_reducible exact ⟨cellO y.1 _,cellO y.2.1 _,cellO y.2.2 _⟩ | with_reducible exact ⟨cellO z.1 _,cellO z.2.1 _,cellO z.2.2 _⟩ | with_reducible exact ⟨cellD (cellO y.1 _),cellD (cellO y.2.1 _),cellD (cellO y.2.2 _)⟩ | fail) ((first | (go_at_call 19;with_reducible refine Calls.mono (room_any _ f.f1 A1 c1 ?_ HL1.out) ?_;(repeat (first | exact HC1.out | (with_reducible refine Kd.C_alloc ?_ _) | (with_reducible refine Kd.C_drewN ?_ _) | (with_reducible refine Kd.C_drew ?_)));rintro e w2 ⟨gp,cp,rfl,HR2,HB2⟩;(first | (have hq:=unalloc HB2.out;have HB3:=Lib.hid hq.1;have HBK:=Lib.hid hq.2;obtain ⟨q0,q1,q2,q3,q4⟩:=S5_blk hq.2;obtain ⟨u0,u1,u2,u3,u4⟩:=S5_fz hq.2;clear hq) | have HB3:=Lib.hid (undrew HB2.out));have z:=And.intro (cellB HB3.out y0) (And.intro (cellB HB3.out y1) (cellB HB3.out y2))) | (go_at_call 19;refine stop_intro ?_)))
    all_goals
     go_wp2_with (fail)
     go_meet
    all_goals first
     | (have hk:=HBK.out;exact ⟨_,_,_,rfl,Lib.hid (Lg.initB (below_then B1.out B1.out.size HB3.out) (blkB HB3.out F1.out) G1.out (Nat.le_trans B1.out.size (below_alloc (Below.refl w1.heap.size w1) _).size) HR2.out hk B1.out.size HNE.out)⟩)
     | exact ⟨_,_,_,rfl,Lib.hid (Lg.initA (below_then B1.out B1.out.size HB3.out) (blkB HB3.out F1.out) G1.out B1.out.size HR2.out)⟩
   case rest=>
    clear y0 y1 y2 HNE HC1 HL1 F1
    obtain ⟨gg,gp,cp,rfl,HG⟩:=hcut
    obtain ⟨vP,hvP⟩:∃ vP:Value,vP = .slice (some ⟨gp,0,none⟩) f.f1.length cp:=⟨_,rfl⟩
    have HVP:=Lib.hid hvP
    rw [← hvP] at HG
    clear hvP
    generalize wr = wi at *
    generalize gk = go at *
    obtain ⟨fc,hfc⟩:∃ fc:Array Value,fc = #[.string f.f0,.slice A1 f.f1.length c1,.int .i64 f.f2,.slice A3 f.f3.length c3,.slice A4 f.f4.length c4]:=⟨_,rfl⟩
    have HFC:=Lib.hid hfc
    rw [← hfc] at HG
    clear hfc
    go_wp2_with (fail)
    go_loopg [7] f.f3.length (fun k v7 wv=>∃ (j:Nat) (AV:Option Addr) (cV:Nat),j ≤ f.f3.length ∧ v7 = .int .i64 j ∧ Hid (j + k = f.f3.length) ∧ Hid (Lg (Kd.slice 42 f42) (Kd.slice 46 f46) wi wv gf gg fc f.f0 f.f2 f.f1 vP (.slice AV j cV) (.slice none 0 0) (tt (f.f3.take j)) []))
    case atStart=>exact ⟨0,none,0,by omega,rfl,Lib.hid (by omega),HG⟩
    case round=>
     clear HG
     obtain ⟨j,AV,cV,hj,rfl,HJ,HG⟩:=hrel
     have hfb:=HG.out.fb
     rw [HFC.out] at hfb
     have f3:wr.cell? ⟨gf,3,none⟩ = some (.slice A3 f.f3.length c3):=(blk_cell hfb 3).trans rfl
     by_cases hjl:j < f.f3.length
     ·obtain ⟨x,hx⟩:∃ x,x = f.f3[j]:=⟨_,rfl⟩
      have hxr:rd_T42 f.f3 (j:Int) = x:=by unfold rd_T42;rw [Int.toNat_natCast,List.getD_eq_getElem?_getD,List.getElem?_eq_getElem hjl,hx];rfl
      have HXL:=Lib.hid (show x.f3.length ≤ 1000000000000 by have:=HLF.out.a x (by rw [hx];exact List.getElem_mem hjl);omega)
      have HXT:Hid (tt (f.f3.take (j + 1)) = tt (f.f3.take j) ++ [(x,true)]):=Lib.hid (by unfold tt;rw [hx,List.take_add_one,List.getElem?_eq_getElem hjl,List.map_append];rfl)
      have HLEN:Hid ((tt (f.f3.take j) ++ [(x,true)]).length = j + 1):=Lib.hid (by unfold tt;simp;omega)
      have HBD:Hid (((tt (f.f3.take j)).length + 1) * 48 ≤ 140737488355328):=Lib.hid (by have:=HLF.out.v;unfold tt;simp;omega)
      obtain ⟨ad3,A5,c5,eA3,x0,x1,x2,x3,l5,i5⟩:=at_T42 (Kd.C_below I3.out HG.out.below) (j:Int) (by omega) (by omega)
      rw [hxr] at x0 x1 x2 x3 l5 i5
      simp only [Int.toNat_natCast] at x0 x1 x2 x3
      have I5:=Lib.hid i5
      subst eA3
      clear l5 i5 hxr hx hfb
      go_upto_region 11 with (fail)
      obtain ⟨wa,hwa⟩:∃ wa,wa = wr.alloc (.cells #[.int .i64 x.f0,.int .i64 x.f1,.int .i64 x.f2,.slice A5 x.f3.length c5] 42):=⟨_,rfl⟩
      obtain ⟨gv,hgv⟩:∃ gv,gv = wr.heap.size:=⟨_,rfl⟩
      have hBa:Below wr.heap.size wr wa:=by rw [hwa];exact below_alloc (Below.refl _ _) _
      have hFa:wa.heap[gv]? = some (.cells #[.int .i64 x.f0,.int .i64 x.f1,.int .i64 x.f2,.slice A5 x.f3.length c5] 42 (0,0)):=by rw [hwa,hgv];exact blk_new wr _
      have hRV:f42.R 42 wr wi.heap.size (fun _=>True) (.slice AV j cV) (tt (f.f3.take j)):=by
       obtain ⟨v,e,h⟩:=HG.out.rv
       injection e with e _
       rw [e]
       exact h
      have HNV:Hid (some gv ≠ (Value.slice AV j cV).ownBlock):=Lib.hid (fun e=>by have:=Kd.R_lt hRV gv e.symm;omega)
      rw [← hgv,← hwa]
      have HGa:=Lib.hid (HG.out.then_ hBa)
      have HRa:=Lib.hid (Kd.R_below hRV hBa)
      have HFa:=Lib.hid hFa
      have HNG:=Lib.hid (ty_ne hFa HGa.out.gb (by decide))
      have y:=S4_blk hFa
      have q:wa.cell? ⟨gg,3,none⟩ = some (.slice AV j cV):=(blk_cell HGa.out.gb 3).trans rfl
      have HCa:=Lib.hid (Kd.C_below I5.out hBa)
      have h3842:(38:Nat) ≠ 42:=by decide
      have HD:=Lib.hid h3842
      clear hwa hgv hBa hFa hRV f3 x0 x1 x2 x3 h3842
      refine start_ (n:=16) (S:=fun w'=>w'.cell? ⟨gv,0,none⟩ = some (.int .i64 x.f0) ∧ w'.cell? ⟨gv,1,none⟩ = some (.int .i64 x.f1) ∧ w'.cell? ⟨gv,2,none⟩ = some (.int .i64 x.f2) ∧ w'.cell? ⟨gv,3,none⟩ = some (.slice A5 x.f3.length c5) ∧ w'.cell? ⟨gg,3,none⟩ = some (.slice AV j cV)) (ds:=[15]) (bl 0 16) (by kernel_rfl) rfl rfl (⟨cellD y.1,cellD y.2.1,cellD y.2.2.1,cellD y.2.2.2,cellD q⟩) (fun hHeld=>?_)
      refine with_tabW lent_tab11 lent_bits11 (fun HT_ HW_=>?_)
      refine pure_ (i:=0) (N:=some 45) (v:=?_) (a':=?_) (bl 1 16) rfl rfl (any_of HT_.out (by kernel_rfl)) (fun _ _ _ h=>h) (Or.inl ⟨by rfl,?_⟩) ?_ ?_
      rotate_left
      ·intro w'
       go_simp
       with_reducible rfl
      rotate_left
      ·simp only [Act.put,List.setIfInBounds_toArray,List.set_cons_zero,List.set_cons_succ,i64_w,i32_w]
       rfl
      refine pure_ (i:=2) (N:=some 47) (v:=?_) (a':=?_) #[true,false,true,false,false,false,false,false,false,false,false,false,false,false,false,false] rfl rfl (any_of HT_.out (by kernel_rfl)) (fun _ _ _ h=>h) (Or.inl ⟨by rfl,?_⟩) ?_ ?_
      rotate_left
      ·intro w'
       go_simp
       with_reducible rfl
      rotate_left
      ·simp only [Act.put,List.setIfInBounds_toArray,List.set_cons_zero,List.set_cons_succ,i64_w,i32_w]
       rfl
      refine pure_ (i:=4) (N:=some 49) (v:=?_) (a':=?_) #[true,false,true,false,true,false,false,false,false,false,false,false,false,false,false,false] rfl rfl (any_of HT_.out (by kernel_rfl)) (fun _ _ _ h=>h) (Or.inl ⟨by rfl,?_⟩) ?_ ?_
      rotate_left
      ·intro w'
       go_simp
       with_reducible rfl
      rotate_left
      ·simp only [Act.put,List.setIfInBounds_toArray,List.set_cons_zero,List.set_cons_succ,i64_w,i32_w]
       rfl
      refine pure_ (i:=6) (N:=some 51) (v:=?_) (a':=?_) #[true,false,true,false,true,false,true,false,false,false,false,false,false,false,false,false] rfl rfl (any_of HT_.out (by kernel_rfl)) (fun _ _ _ h=>h) (Or.inl ⟨by rfl,?_⟩) ?_ ?_
      rotate_left
      ·intro w'
       go_simp
       with_reducible rfl
      rotate_left
      ·simp only [Act.put,List.setIfInBounds_toArray,List.set_cons_zero,List.set_cons_succ,i64_w,i32_w]
       rfl
      refine pure_ (i:=8) (N:=some 53) (v:=?_) (a':=?_) #[true,false,true,false,true,false,true,false,true,false,false,false,false,false,false,false] rfl rfl (any_of HT_.out (by kernel_rfl)) (fun _ _ _ h=>h) (Or.inl ⟨by rfl,?_⟩) ?_ ?_
      rotate_left
      ·intro w'
       go_simp
       with_reducible rfl
      rotate_left
      ·simp only [Act.put,List.setIfInBounds_toArray,List.set_cons_zero,List.set_cons_succ,i64_w,i32_w]
       rfl
      refine take_ (i:=1) (N:=some 46) (v:=?_) (a':=?_) #[true,true,true,false,true,false,true,false,true,false,false,false,false,false,false,false] rfl rfl (take_ofW HT_.out HW_.out (by kernel_rfl)) (fun _ _ _ h=>h) (Or.inl ⟨by rfl,?_⟩) hHeld ?_ ?_
      rotate_left
      ·rintro w' ⟨s0,s1,s2,s3,s4⟩
       go_simp
       with_reducible rfl
      rotate_left
      ·simp only [Act.put,List.setIfInBounds_toArray,List.set_cons_zero,List.set_cons_succ,i64_w,i32_w]
       rfl
      refine take_ (i:=3) (N:=some 48) (v:=?_) (a':=?_) #[true,true,true,true,true,false,true,false,true,false,false,false,false,false,false,false] rfl rfl (take_ofW HT_.out HW_.out (by kernel_rfl)) (fun _ _ _ h=>h) (Or.inl ⟨by rfl,?_⟩) hHeld ?_ ?_
      rotate_left
      ·rintro w' ⟨s0,s1,s2,s3,s4⟩
       go_simp
       with_reducible rfl
      rotate_left
      ·simp only [Act.put,List.setIfInBounds_toArray,List.set_cons_zero,List.set_cons_succ,i64_w,i32_w]
       rfl
      refine take_ (i:=5) (N:=some 50) (v:=?_) (a':=?_) #[true,true,true,true,true,true,true,false,true,false,false,false,false,false,false,false] rfl rfl (take_ofW HT_.out HW_.out (by kernel_rfl)) (fun _ _ _ h=>h) (Or.inl ⟨by rfl,?_⟩) hHeld ?_ ?_
      rotate_left
      ·rintro w' ⟨s0,s1,s2,s3,s4⟩
       go_simp
       with_reducible rfl
      rotate_left
      ·simp only [Act.put,List.setIfInBounds_toArray,List.set_cons_zero,List.set_cons_succ,i64_w,i32_w]
       rfl
      refine take_ (i:=7) (N:=some 52) (v:=?_) (a':=?_) (bl 9 16) rfl rfl (take_ofW HT_.out HW_.out (by kernel_rfl)) (fun _ _ _ h=>h) (Or.inl ⟨by rfl,?_⟩) hHeld ?_ ?_
      rotate_left
      ·rintro w' ⟨s0,s1,s2,s3,s4⟩
       go_simp
       with_reducible rfl
      rotate_left
      ·simp only [Act.put,List.setIfInBounds_toArray,List.set_cons_zero,List.set_cons_succ,i64_w,i32_w]
       rfl
      refine take_ (i:=9) (N:=some 54) (v:=?_) (a':=?_) (bl 10 16) rfl rfl (take_ofW HT_.out HW_.out (by kernel_rfl)) (fun _ _ _ h=>h) (Or.inl ⟨by rfl,?_⟩) hHeld ?_ ?_
      rotate_left
      ·rintro w' ⟨s0,s1,s2,s3,s4⟩
       go_simp
       with_reducible rfl
      rotate_left
      ·simp only [Act.put,List.setIfInBounds_toArray,List.set_cons_zero,List.set_cons_succ,i64_w,i32_w]
       rfl
      refine one_ (i:=10) (N:=some 55) (bl 11 16) rfl rfl (one_of HT_.out (by kernel_rfl)) (by decide) (fun K hK=>?_)
      refine goes_ Try.func19 (by kernel_rfl) rfl #[.slice A5 x.f3.length c5] (by rfl) rfl rfl (by (try simp only [List.map_toArray,List.map_cons,List.map_nil]);first | done | rfl | (simp only [List.length_drop,List.length_take];rfl)) ?_
      with_reducible refine Calls.mono (room_any _ x.f3 A5 c5 ?_ HXL.out) ?_
      ·(repeat (first | exact HCa.out | (with_reducible refine Kd.C_drewN ?_ _) | (with_reducible refine Kd.C_drew ?_)))
      rintro e w2 ⟨gp,cp,rfl,HR2,HB2⟩
      refine ⟨_,rfl,?_⟩
      have HB3:=Lib.hid (undrew HB2.out)
      have HF2:=Lib.hid (blkB HB3.out HFa.out)
      have z:=S4_blk HF2.out
      have HG2:=Lib.hid (HGa.out.then_ HB3.out)
      have HRV2:=Lib.hid (Kd.R_below HRa.out HB3.out)
      have q2:=cellB HB3.out q
      have q3:=cellO q2 (.cells #[.int .i64 x.f0,.int .i64 x.f1,.int .i64 x.f2,.slice (some ⟨gp,0,none⟩) x.f3.length cp] 42)
      have HM2:=Lib.hid (f42_mk x true (kL_M HR2.out HGa.out.below.size))
      refine hK.out _ _ (⟨z.1,z.2.1,z.2.2.1,z.2.2.2,q2⟩) (fun hHeld=>?_)
      clear hK K
      refine norm_ (a':=?_) ?_ ?_
      rotate_left
      ·show Act.put _ (some 55) _ = _
       simp only [Act.put,List.setIfInBounds_toArray,List.set_cons_zero,List.set_cons_succ,i64_w,i32_w]
       rfl
      refine pure_ (i:=11) (N:=some 56) (v:=?_) (a':=?_) (bl 12 16) rfl rfl (any_of HT_.out (by kernel_rfl)) (fun _ _ _ h=>h) (Or.inl ⟨by rfl,?_⟩) ?_ ?_
      rotate_left
      ·intro w'
       go_simp
       with_reducible rfl
      rotate_left
      ·simp only [Act.put,List.setIfInBounds_toArray,List.set_cons_zero,List.set_cons_succ,i64_w,i32_w]
       rfl
      refine one_ (i:=12) (N:=some 57) (bl 13 16) rfl rfl (one_of HT_.out (by kernel_rfl)) (by decide) (fun K hK=>?_)
      refine value_ (w1:=?_) (v:=?_) (by rfl) rfl ?_ ?_
      rotate_left 2
      ·go_simp
       constructor
       ·rfl
       ·rfl
      refine hK.out _ _ (⟨cellO z.1 _,cellO z.2.1 _,cellO z.2.2.1 _,cellO z.2.2.2 _,q3⟩) (fun hHeld=>?_)
      clear hK K
      refine norm_ (a':=?_) ?_ ?_
      rotate_left
      ·show Act.put _ (some 57) _ = _
       simp only [Act.put,List.setIfInBounds_toArray,List.set_cons_zero,List.set_cons_succ,i64_w,i32_w]
       rfl
      refine one_ (i:=13) (N:=some 58) (bl 14 16) rfl rfl (one_of HT_.out (by kernel_rfl)) (by decide) (fun K hK=>?_)
      refine app_at f42 w2 wi.heap.size (by rfl) (.tmp 46) (.tmp 57) 35 42 (.agg #[.int .i64 0,.int .i64 0,.int .i64 0,.slice none 0 0]) 48 (by rfl) Try.underlying35 info42 (by rfl) (by decide) (by decide) (.slice AV j cV) (tt (f.f3.take j)) (x,true) [.int .i64 x.f0,.int .i64 x.f1,.int .i64 x.f2,.slice (some ⟨gp,0,none⟩) x.f3.length cp] (by rfl) (by rfl) (by rfl) HM2.out (by decide) HRV2.out HG2.out.below.size HBD.out ?_
      intro v1 w4 hR4 hg4
      have e6:=Kd.R_slice hR4
      rw [HLEN.out] at e6
      obtain ⟨A6,c6,e7⟩:=e6
      subst e7
      have hq4:=grown_ty hg4 (Kd.R_typed HRV2.out) HG2.out.gb HD.out
      have c43:=(S5_blk hq4).2.2.2.1
      have f43:=blk_frozen hq4 3
      have hv4:=(hg4.block gv (blk_lt HF2.out) HNV.out).trans HF2.out
      have z:=S4_blk hv4
      have HR4:=Lib.hid hR4
      have HG4:=Lib.hid hg4
      clear hR4 hg4 hq4 hv4
      refine hK.out _ _ (⟨z.1,z.2.1,z.2.2.1,z.2.2.2,c43⟩) (fun hHeld=>?_)
      clear hK K
      refine norm_ (a':=?_) ?_ ?_
      rotate_left
      ·show Act.put _ (some 58) _ = _
       simp only [Act.put,List.setIfInBounds_toArray,List.set_cons_zero,List.set_cons_succ,i64_w,i32_w]
       rfl
      refine pure_ (i:=14) (N:=some 59) (v:=?_) (a':=?_) (bl 15 16) rfl rfl (any_of HT_.out (by kernel_rfl)) (fun _ _ _ h=>h) (Or.inl ⟨by rfl,?_⟩) ?_ ?_
      rotate_left
      ·intro w'
       go_simp
       with_reducible rfl
      rotate_left
      ·simp only [Act.put,List.setIfInBounds_toArray,List.set_cons_zero,List.set_cons_succ,i64_w,i32_w]
       rfl
      refine last_ (i:=15) (N:=none) (bl 16 16) rfl rfl (one_of HT_.out (by kernel_rfl)) (by decide) (fun K hK=>?_)
      refine skip_ (w1:=?_) (by rfl) rfl ?_ ?_
      rotate_left
      ·go_simp
       rfl
      refine hK.out _ _ ?_
      clear hK K
      refine done_ (done_of HT_.out (by kernel_rfl)) ?_
      all_goals
       have HG5:Hid (Lg (Kd.slice 42 f42) (Kd.slice 46 f46) wi (w4.setCell ⟨gg,3,none⟩ (.slice A6 (j + 1) c6)) gf gg fc f.f0 f.f2 f.f1 vP (.slice A6 (j + 1) c6) (.slice none 0 0) (tt (f.f3.take (j + 1))) []):=Lib.hid (by
        have hb:=HG2.out.newV HG4.out (fun k hk=>⟨Kd.R_base HRV2.out k hk,Kd.R_typed HRV2.out k hk⟩) (KV':=Kd.slice 42 f42) (xv':=tt (f.f3.take j) ++ [(x,true)]) ⟨_,rfl,HR4.out⟩ (by decide) (by decide)
        rw [← HXT.out] at hb
        exact hb)
       have hjb:f.f3.length ≤ 1000000000:=HLF.out.v
       go_wp2_with (fail)
       go_roundg (gk - 1)
       case measure=>have:=HJ.out;omega
       case rel=>exact ⟨j + 1,A6,c6,by omega,by go_num,Lib.hid (by have:=HJ.out;omega),HG5⟩
     ·have hje:j = f.f3.length:=by omega
      subst hje
      clear hjl hj HJ
      have hRV:f42.R 42 wr wi.heap.size (fun _=>True) (.slice AV f.f3.length cV) (tt f.f3):=by
       obtain ⟨v,e,h⟩:=HG.out.rv
       injection e with e _
       rw [e]
       rw [List.take_length] at h
       exact h
      have HLEN:Hid ((tt f.f3 ++ [m42]).length = f.f3.length + 1):=Lib.hid (by unfold tt;simp)
      have HBD:Hid (((tt f.f3).length + 1) * 48 ≤ 140737488355328):=Lib.hid (by have:=HLF.out.v;unfold tt;simp;omega)
      have HM:=Lib.hid (f42_mk (W:=wr.drew) (ok:=fun _=>True) ⟨-71,0,0,[]⟩ false (kL_nil wr.drew wi.heap.size))
      have HRV:=Lib.hid (Kd.R_drew hRV)
      have HGd:=Lib.hid (HG.out.then_ (below_drew (Below.refl _ _)))
      have q:wr.cell? ⟨gg,3,none⟩ = some (.slice AV f.f3.length cV):=(blk_cell HG.out.gb 3).trans rfl
      have q1:=cellO q (.cells #[.int .i64 (-71),.int .i64 0,.int .i64 0,.slice none 0 0] 42)
      have y:=f3
      have HNE:=Lib.hid HG.out.ne
      have h3842:(38:Nat) ≠ 42:=by decide
      have HD:=Lib.hid h3842
      obtain ⟨i042,hi042,_,hsz42,_⟩:=info_parts info42
      have HI42:=Lib.hid hi042
      have HP0:=Lib.hid (show (0:Int) ≤ (f.f3.length:Int) by omega)
      have HP1:=Lib.hid (show (f.f3.length:Int) ≤ ((f.f3.length + 1:Nat):Int) by omega)
      clear hfb hRV h3842 hi042 hsz42
      go_wp2_with (fail)
      go_cut [] (fun wx=>∃ (A6:Option Addr) (c6:Nat),Hid (Lg (tl 42 f42 [m42]) (Kd.slice 46 f46) wi wx gf gg fc f.f0 f.f2 f.f1 vP (.slice A6 f.f3.length c6) (.slice none 0 0) (tt f.f3,true) []))
      case first=>
       refine start_ (n:=11) (S:=fun w'=>w'.cell? ⟨gf,3,none⟩ = some (.slice A3 f.f3.length c3) ∧ w'.cell? ⟨gg,3,none⟩ = some (.slice AV f.f3.length cV)) (ds:=[10]) (bl 0 11) (by kernel_rfl) rfl rfl (⟨cellD y,cellD q⟩) (fun hHeld=>?_)
       refine with_tabW lent_tab12 lent_bits12 (fun HT_ HW_=>?_)
       refine pure_ (i:=0) (N:=some 60) (v:=?_) (a':=?_) (bl 1 11) rfl rfl (any_of HT_.out (by kernel_rfl)) (fun _ _ _ h=>h) (Or.inl ⟨by rfl,?_⟩) ?_ ?_
       rotate_left
       ·intro w'
        go_simp
        with_reducible rfl
       rotate_left
       ·simp only [Act.put,List.setIfInBounds_toArray,List.set_cons_zero,List.set_cons_succ,i64_w,i32_w]
        rfl
       refine pure_ (i:=2) (N:=some 62) (v:=?_) (a':=?_) #[true,false,true,false,false,false,false,false,false,false,false] rfl rfl (any_of HT_.out (by kernel_rfl)) (fun _ _ _ h=>h) (Or.inl ⟨by rfl,?_⟩) ?_ ?_
       rotate_left
       ·intro w'
        go_simp
        with_reducible rfl
       rotate_left
       ·simp only [Act.put,List.setIfInBounds_toArray,List.set_cons_zero,List.set_cons_succ,i64_w,i32_w]
        rfl
       refine pure_ (i:=5) (N:=some 65) (v:=?_) (a':=?_) #[true,false,true,false,false,true,false,false,false,false,false] rfl rfl (any_of HT_.out (by kernel_rfl)) (fun _ _ _ h=>h) (Or.inl ⟨by rfl,?_⟩) ?_ ?_
       rotate_left
       ·intro w'
        go_simp
        with_reducible rfl
       rotate_left
       ·simp only [Act.put,List.setIfInBounds_toArray,List.set_cons_zero,List.set_cons_succ,i64_w,i32_w]
        rfl
       refine take_ (i:=1) (N:=some 61) (v:=?_) (a':=?_) #[true,true,true,false,false,true,false,false,false,false,false] rfl rfl (take_ofW HT_.out HW_.out (by kernel_rfl)) (fun _ _ _ h=>h) (Or.inl ⟨by rfl,?_⟩) hHeld ?_ ?_
       rotate_left
       ·rintro w' ⟨s0,s1⟩
        go_simp
        with_reducible rfl
       rotate_left
       ·simp only [Act.put,List.setIfInBounds_toArray,List.set_cons_zero,List.set_cons_succ,i64_w,i32_w]
        rfl
       refine take_ (i:=6) (N:=some 66) (v:=?_) (a':=?_) #[true,true,true,false,false,true,true,false,false,false,false] rfl rfl (take_ofW HT_.out HW_.out (by kernel_rfl)) (fun _ _ _ h=>h) (Or.inl ⟨by rfl,?_⟩) hHeld ?_ ?_
       rotate_left
       ·rintro w' ⟨s0,s1⟩
        go_simp
        with_reducible rfl
       rotate_left
       ·simp only [Act.put,List.setIfInBounds_toArray,List.set_cons_zero,List.set_cons_succ,i64_w,i32_w]
        rfl
       refine pure_ (i:=7) (N:=some 67) (v:=?_) (a':=?_) #[true,true,true,false,false,true,true,true,false,false,false] rfl rfl (any_of HT_.out (by kernel_rfl)) (fun _ _ _ h=>h) (Or.inl ⟨by rfl,?_⟩) ?_ ?_
       rotate_left
       ·intro w'
        go_simp
        with_reducible rfl
       rotate_left
       ·simp only [Act.put,List.setIfInBounds_toArray,List.set_cons_zero,List.set_cons_succ,i64_w,i32_w]
        rfl
       refine one_ (i:=3) (N:=some 63) #[true,true,true,true,false,true,true,true,false,false,false] rfl rfl (one_of HT_.out (by kernel_rfl)) (by decide) (fun K hK=>?_)
       refine value_ (w1:=?_) (v:=?_) (by rfl) rfl ?_ ?_
       rotate_left 2
       ·go_simp
        constructor
        ·rfl
        ·rfl
       refine hK.out _ _ (⟨cellO (cellD y) _,cellO (cellD q) _⟩) (fun hHeld=>?_)
       clear hK K
       refine norm_ (a':=?_) ?_ ?_
       rotate_left
       ·show Act.put _ (some 63) _ = _
        simp only [Act.put,List.setIfInBounds_toArray,List.set_cons_zero,List.set_cons_succ,i64_w,i32_w]
        rfl
       refine one_ (i:=4) (N:=some 64) (bl 8 11) rfl rfl (one_of HT_.out (by kernel_rfl)) (by decide) (fun K hK=>?_)
       refine app_at f42 wr.drew wi.heap.size (by rfl) (.tmp 61) (.tmp 63) 35 42 (.agg #[.int .i64 0,.int .i64 0,.int .i64 0,.slice none 0 0]) 48 (by rfl) Try.underlying35 info42 (by rfl) (by decide) (by decide) (.slice AV f.f3.length cV) (tt f.f3) m42 [.int .i64 (-71),.int .i64 0,.int .i64 0,.slice none 0 0] (by rfl) (by rfl) (by rfl) HM.out (by decide) HRV.out HGd.out.below.size HBD.out ?_
       intro v1 w4 hR4 hg4
       have e6:=Kd.R_slice hR4
       rw [HLEN.out] at e6
       obtain ⟨A6,c6,e7⟩:=e6
       subst e7
       have hq4:=grown_ty hg4 (Kd.R_typed HRV.out) HGd.out.gb HD.out
       have hf4:=grown_ty hg4 (Kd.R_typed HRV.out) HGd.out.fb HD.out
       rw [HFC.out] at hf4
       have z:=(S5_blk hf4).2.2.2.1
       have c43:=(S5_blk hq4).2.2.2.1
       have f43:=blk_frozen hq4 3
       have hcut:=cut_to (P:=Try.prog) 35 42 .i64 Try.underlying35 HI42.out A6 (f.f3.length + 1) c6 (f.f3.length:Int) HP0.out HP1.out (Kd.R_reads' hR4).2.1
       have HR4:=Lib.hid hR4
       have HG4:=Lib.hid hg4
       clear hR4 hg4 hq4 hf4
       refine hK.out _ _ (⟨z,c43⟩) (fun hHeld=>?_)
       clear hK K
       refine norm_ (a':=?_) ?_ ?_
       rotate_left
       ·show Act.put _ (some 64) _ = _
        simp only [Act.put,List.setIfInBounds_toArray,List.set_cons_zero,List.set_cons_succ,i64_w,i32_w]
        rfl
       refine pure_ (i:=8) (N:=some 68) (v:=?_) (a':=?_) (bl 9 11) rfl rfl (any_of HT_.out (by kernel_rfl)) (fun _ _ _ h=>h) (Or.inl ⟨by rfl,?_⟩) ?_ ?_
       rotate_left
       ·intro w'
        go_simp
        with_reducible rfl
       rotate_left
       ·simp only [Act.put,List.setIfInBounds_toArray,List.set_cons_zero,List.set_cons_succ,i64_w,i32_w]
        rfl
       refine pure_ (i:=9) (N:=some 69) (v:=?_) (a':=?_) (bl 10 11) rfl rfl (any_of HT_.out (by kernel_rfl)) (fun _ _ _ h=>h) (Or.inl ⟨by rfl,?_⟩) ?_ ?_
       rotate_left
       ·intro w'
        go_simp
        with_reducible rfl
       rotate_left
       ·simp only [Act.put,List.setIfInBounds_toArray,List.set_cons_zero,List.set_cons_succ,i64_w,i32_w]
        rfl
       refine last_ (i:=10) (N:=none) (bl 11 11) rfl rfl (one_of HT_.out (by kernel_rfl)) (by decide) (fun K hK=>?_)
       refine skip_ (w1:=?_) (by rfl) rfl ?_ ?_
       rotate_left
       ·go_simp
        rfl
       refine hK.out _ _ ?_
       clear hK K
       refine done_ (done_of HT_.out (by kernel_rfl)) ?_
       all_goals
        go_wp2_with (fail)
        go_meet
       all_goals
        refine ⟨A6,c6,Lib.hid ?_⟩
        exact HGd.out.newV HG4.out (fun k hk=>⟨Kd.R_base HRV.out k hk,Kd.R_typed HRV.out k hk⟩) (KV':=tl 42 f42 [m42]) (xv':=(tt f.f3,true)) (tl_mk HR4.out (by unfold tt;simp) rfl) (by decide) (by decide)
      case rest=>
       obtain ⟨A6,c6,HGV⟩:=hcut
       clear HLEN HBD HM HRV HGd q q1 y HNE HD HI42 HP0 HP1 f3 HG
       generalize wr = wj at *
       generalize gk = gj at *
       go_wp2_with (fail)
       go_loopg [9] f.f4.length (fun k v9 wv=>∃ (j:Nat) (AB:Option Addr) (cB:Nat),j ≤ f.f4.length ∧ v9 = .int .i64 j ∧ Hid (j + k = f.f4.length) ∧ Hid (Lg (tl 42 f42 [m42]) (Kd.slice 46 f46) wi wv gf gg fc f.f0 f.f2 f.f1 vP (.slice A6 f.f3.length c6) (.slice AB j cB) (tt f.f3,true) (tt (f.f4.take j))))
       case atStart=>exact ⟨0,none,0,by omega,rfl,Lib.hid (by omega),HGV⟩
       case round=>
        clear HGV
        obtain ⟨j,AB,cB,hj,rfl,HJ,HG⟩:=hrel
        have hfb:=HG.out.fb
        rw [HFC.out] at hfb
        have f4:wr.cell? ⟨gf,4,none⟩ = some (.slice A4 f.f4.length c4):=(blk_cell hfb 4).trans rfl
        by_cases hjl:j < f.f4.length
        ·obtain ⟨x,hx⟩:∃ x,x = f.f4[j]:=⟨_,rfl⟩
         have hxr:rd_T46 f.f4 (j:Int) = x:=by unfold rd_T46;rw [Int.toNat_natCast,List.getD_eq_getElem?_getD,List.getElem?_eq_getElem hjl,hx];rfl
         have hxm:=HLF.out.q x (by rw [hx];exact List.getElem_mem hjl)
         have HX0:=Lib.hid (show x.f0.length ≤ 1000000000000 by omega)
         have HX1:=Lib.hid (show x.f1.length ≤ 1000000000000 by omega)
         have HX2:=Lib.hid (show x.f2.f2.length ≤ 1000000000000 by omega)
         have HX3:=Lib.hid (show x.f3.length ≤ 1000000000000 by omega)
         have HXT:Hid (tt (f.f4.take (j + 1)) = tt (f.f4.take j) ++ [(x,true)]):=Lib.hid (by unfold tt;rw [hx,List.take_add_one,List.getElem?_eq_getElem hjl,List.map_append];rfl)
         have HLEN:Hid ((tt (f.f4.take j) ++ [(x,true)]).length = j + 1):=Lib.hid (by unfold tt;simp;omega)
         have HBD:Hid (((tt (f.f4.take j)).length + 1) * 112 ≤ 140737488355328):=Lib.hid (by have:=HLF.out.b;unfold tt;simp;omega)
         obtain ⟨ad4,A50,c50,A51,c51,A54,c54,A55,c55,eA4,x0,x1,x2,x3,x4,x5,_,i50,_,i51,_,i54,_,i55⟩:=at_T46 (Kd.C_below I4.out HG.out.below) (j:Int) (by omega) (by omega)
         rw [hxr] at x0 x1 x2 x3 x4 x5 i50 i51 i54 i55
         simp only [Int.toNat_natCast] at x0 x1 x2 x3 x4 x5
         have I50:=Lib.hid i50
         have I51:=Lib.hid i51
         have I54:=Lib.hid i54
         have I55:=Lib.hid i55
         subst eA4
         clear i50 i51 i54 i55 hxr hx hfb hxm
         go_upto_region 17 with (fail)
         obtain ⟨wa,hwa⟩:∃ wa,wa = wr.alloc (.cells #[.slice A50 x.f0.length c50,.slice A51 x.f1.length c51,.int .i64 x.f2.f0,.int .i64 x.f2.f1,.slice A54 x.f2.f2.length c54,.slice A55 x.f3.length c55] 46):=⟨_,rfl⟩
         obtain ⟨gv,hgv⟩:∃ gv,gv = wr.heap.size:=⟨_,rfl⟩
         have hBa:Below wr.heap.size wr wa:=by rw [hwa];exact below_alloc (Below.refl _ _) _
         have hFa:wa.heap[gv]? = some (.cells #[.slice A50 x.f0.length c50,.slice A51 x.f1.length c51,.int .i64 x.f2.f0,.int .i64 x.f2.f1,.slice A54 x.f2.f2.length c54,.slice A55 x.f3.length c55] 46 (0,0)):=by rw [hwa,hgv];exact blk_new wr _
         have hRV:f46.R 46 wr wi.heap.size (fun _=>True) (.slice AB j cB) (tt (f.f4.take j)):=by
          obtain ⟨v,e,h⟩:=HG.out.rb
          injection e with e _
          rw [e]
          exact h
         have HNV:Hid (some gv ≠ (Value.slice AB j cB).ownBlock):=Lib.hid (fun e=>by have:=Kd.R_lt hRV gv e.symm;omega)
         rw [← hgv,← hwa]
         have HGa:=Lib.hid (HG.out.then_ hBa)
         have HRa:=Lib.hid (Kd.R_below hRV hBa)
         have HFa:=Lib.hid hFa
         have HNG:=Lib.hid (ty_ne hFa HGa.out.gb (by decide))
         have y:=S6_blk hFa
         have q:wa.cell? ⟨gg,4,none⟩ = some (.slice AB j cB):=(blk_cell HGa.out.gb 4).trans rfl
         have HC0:=Lib.hid (Kd.C_below I50.out hBa)
         have HC1:=Lib.hid (Kd.C_below I51.out hBa)
         have HC2:=Lib.hid (Kd.C_below I54.out hBa)
         have HC3:=Lib.hid (Kd.C_below I55.out hBa)
         have h3846:(38:Nat) ≠ 46:=by decide
         have HD:=Lib.hid h3846
         clear hwa hgv hBa hFa hRV f4 x0 x1 x2 x3 x4 x5 h3846
         refine start_ (n:=27) (S:=fun w'=>w'.cell? ⟨gv,0,none⟩ = some (.slice A50 x.f0.length c50) ∧ w'.cell? ⟨gv,1,none⟩ = some (.slice A51 x.f1.length c51) ∧ w'.cell? ⟨gv,2,none⟩ = some (.int .i64 x.f2.f0) ∧ w'.cell? ⟨gv,3,none⟩ = some (.int .i64 x.f2.f1) ∧ w'.cell? ⟨gv,4,none⟩ = some (.slice A54 x.f2.f2.length c54) ∧ w'.cell? ⟨gv,5,none⟩ = some (.slice A55 x.f3.length c55) ∧ w'.cell? ⟨gg,4,none⟩ = some (.slice AB j cB)) (ds:=[26]) (bl 0 27) (by kernel_rfl) rfl rfl (⟨cellD y.1,cellD y.2.1,cellD y.2.2.1,cellD y.2.2.2.1,cellD y.2.2.2.2.1,cellD y.2.2.2.2.2,cellD q⟩) (fun hHeld=>?_)
         refine with_tabW lent_tab17 lent_bits17 (fun HT_ HW_=>?_)
         refine pure_ (i:=0) (N:=some 82) (v:=?_) (a':=?_) (bl 1 27) rfl rfl (any_of HT_.out (by kernel_rfl)) (fun _ _ _ h=>h) (Or.inl ⟨by rfl,?_⟩) ?_ ?_
         rotate_left
         ·intro w'
          go_simp
          with_reducible rfl
         rotate_left
         ·simp only [Act.put,List.setIfInBounds_toArray,List.set_cons_zero,List.set_cons_succ,i64_w,i32_w]
          rfl
         refine pure_ (i:=2) (N:=some 84) (v:=?_) (a':=?_) #[true,false,true,false,false,false,false,false,false,false,false,false,false,false,false,false,false,false,false,false,false,false,false,false,false,false,false] rfl rfl (any_of HT_.out (by kernel_rfl)) (fun _ _ _ h=>h) (Or.inl ⟨by rfl,?_⟩) ?_ ?_
         rotate_left
         ·intro w'
          go_simp
          with_reducible rfl
         rotate_left
         ·simp only [Act.put,List.setIfInBounds_toArray,List.set_cons_zero,List.set_cons_succ,i64_w,i32_w]
          rfl
         refine pure_ (i:=5) (N:=some 87) (v:=?_) (a':=?_) #[true,false,true,false,false,true,false,false,false,false,false,false,false,false,false,false,false,false,false,false,false,false,false,false,false,false,false] rfl rfl (any_of HT_.out (by kernel_rfl)) (fun _ _ _ h=>h) (Or.inl ⟨by rfl,?_⟩) ?_ ?_
         rotate_left
         ·intro w'
          go_simp
          with_reducible rfl
         rotate_left
         ·simp only [Act.put,List.setIfInBounds_toArray,List.set_cons_zero,List.set_cons_succ,i64_w,i32_w]
          rfl
         refine pure_ (i:=8) (N:=some 90) (v:=?_) (a':=?_) #[true,false,true,false,false,true,false,false,true,false,false,false,false,false,false,false,false,false,false,false,false,false,false,false,false,false,false] rfl rfl (any_of HT_.out (by kernel_rfl)) (fun _ _ _ h=>h) (Or.inl ⟨by rfl,?_⟩) ?_ ?_
         rotate_left
         ·intro w'
          go_simp
          with_reducible rfl
         rotate_left
         ·simp only [Act.put,List.setIfInBounds_toArray,List.set_cons_zero,List.set_cons_succ,i64_w,i32_w]
          rfl
         refine pure_ (i:=11) (N:=some 93) (v:=?_) (a':=?_) #[true,false,true,false,false,true,false,false,true,false,false,true,false,false,false,false,false,false,false,false,false,false,false,false,false,false,false] rfl rfl (any_of HT_.out (by kernel_rfl)) (fun _ _ _ h=>h) (Or.inl ⟨by rfl,?_⟩) ?_ ?_
         rotate_left
         ·intro w'
          go_simp
          with_reducible rfl
         rotate_left
         ·simp only [Act.put,List.setIfInBounds_toArray,List.set_cons_zero,List.set_cons_succ,i64_w,i32_w]
          rfl
         refine pure_ (i:=12) (N:=some 94) (v:=?_) (a':=?_) #[true,false,true,false,false,true,false,false,true,false,false,true,true,false,false,false,false,false,false,false,false,false,false,false,false,false,false] rfl rfl (any_of HT_.out (by kernel_rfl)) (fun _ _ _ h=>h) (Or.inl ⟨by rfl,?_⟩) ?_ ?_
         rotate_left
         ·intro w'
          go_simp
          with_reducible rfl
         rotate_left
         ·simp only [Act.put,List.setIfInBounds_toArray,List.set_cons_zero,List.set_cons_succ,i64_w,i32_w]
          rfl
         refine pure_ (i:=14) (N:=some 96) (v:=?_) (a':=?_) #[true,false,true,false,false,true,false,false,true,false,false,true,true,false,true,false,false,false,false,false,false,false,false,false,false,false,false] rfl rfl (any_of HT_.out (by kernel_rfl)) (fun _ _ _ h=>h) (Or.inl ⟨by rfl,?_⟩) ?_ ?_
         rotate_left
         ·intro w'
          go_simp
          with_reducible rfl
         rotate_left
         ·simp only [Act.put,List.setIfInBounds_toArray,List.set_cons_zero,List.set_cons_succ,i64_w,i32_w]
          rfl
         refine pure_ (i:=15) (N:=some 97) (v:=?_) (a':=?_) #[true,false,true,false,false,true,false,false,true,false,false,true,true,false,true,true,false,false,false,false,false,false,false,false,false,false,false] rfl rfl (any_of HT_.out (by kernel_rfl)) (fun _ _ _ h=>h) (Or.inl ⟨by rfl,?_⟩) ?_ ?_
         rotate_left
         ·intro w'
          go_simp
          with_reducible rfl
         rotate_left
         ·simp only [Act.put,List.setIfInBounds_toArray,List.set_cons_zero,List.set_cons_succ,i64_w,i32_w]
          rfl
         refine pure_ (i:=17) (N:=some 99) (v:=?_) (a':=?_) #[true,false,true,false,false,true,false,false,true,false,false,true,true,false,true,true,false,true,false,false,false,false,false,false,false,false,false] rfl rfl (any_of HT_.out (by kernel_rfl)) (fun _ _ _ h=>h) (Or.inl ⟨by rfl,?_⟩) ?_ ?_
         rotate_left
         ·intro w'
          go_simp
          with_reducible rfl
         rotate_left
         ·simp only [Act.put,List.setIfInBounds_toArray,List.set_cons_zero,List.set_cons_succ,i64_w,i32_w]
          rfl
         refine pure_ (i:=18) (N:=some 100) (v:=?_) (a':=?_) #[true,false,true,false,false,true,false,false,true,false,false,true,true,false,true,true,false,true,true,false,false,false,false,false,false,false,false] rfl rfl (any_of HT_.out (by kernel_rfl)) (fun _ _ _ h=>h) (Or.inl ⟨by rfl,?_⟩) ?_ ?_
         rotate_left
         ·intro w'
          go_simp
          with_reducible rfl
         rotate_left
         ·simp only [Act.put,List.setIfInBounds_toArray,List.set_cons_zero,List.set_cons_succ,i64_w,i32_w]
          rfl
         refine take_ (i:=1) (N:=some 83) (v:=?_) (a':=?_) #[true,true,true,false,false,true,false,false,true,false,false,true,true,false,true,true,false,true,true,false,false,false,false,false,false,false,false] rfl rfl (take_ofW HT_.out HW_.out (by kernel_rfl)) (fun _ _ _ h=>h) (Or.inl ⟨by rfl,?_⟩) hHeld ?_ ?_
         rotate_left
         ·rintro w' ⟨s0,s1,s2,s3,s4,s5,s6⟩
          go_simp
          with_reducible rfl
         rotate_left
         ·simp only [Act.put,List.setIfInBounds_toArray,List.set_cons_zero,List.set_cons_succ,i64_w,i32_w]
          rfl
         refine take_ (i:=3) (N:=some 85) (v:=?_) (a':=?_) #[true,true,true,true,false,true,false,false,true,false,false,true,true,false,true,true,false,true,true,false,false,false,false,false,false,false,false] rfl rfl (take_ofW HT_.out HW_.out (by kernel_rfl)) (fun _ _ _ h=>h) (Or.inl ⟨by rfl,?_⟩) hHeld ?_ ?_
         rotate_left
         ·rintro w' ⟨s0,s1,s2,s3,s4,s5,s6⟩
          go_simp
          with_reducible rfl
         rotate_left
         ·simp only [Act.put,List.setIfInBounds_toArray,List.set_cons_zero,List.set_cons_succ,i64_w,i32_w]
          rfl
         refine take_ (i:=6) (N:=some 88) (v:=?_) (a':=?_) #[true,true,true,true,false,true,true,false,true,false,false,true,true,false,true,true,false,true,true,false,false,false,false,false,false,false,false] rfl rfl (take_ofW HT_.out HW_.out (by kernel_rfl)) (fun _ _ _ h=>h) (Or.inl ⟨by rfl,?_⟩) hHeld ?_ ?_
         rotate_left
         ·rintro w' ⟨s0,s1,s2,s3,s4,s5,s6⟩
          go_simp
          with_reducible rfl
         rotate_left
         ·simp only [Act.put,List.setIfInBounds_toArray,List.set_cons_zero,List.set_cons_succ,i64_w,i32_w]
          rfl
         refine take_ (i:=9) (N:=some 91) (v:=?_) (a':=?_) #[true,true,true,true,false,true,true,false,true,true,false,true,true,false,true,true,false,true,true,false,false,false,false,false,false,false,false] rfl rfl (take_ofW HT_.out HW_.out (by kernel_rfl)) (fun _ _ _ h=>h) (Or.inl ⟨by rfl,?_⟩) hHeld ?_ ?_
         rotate_left
         ·rintro w' ⟨s0,s1,s2,s3,s4,s5,s6⟩
          go_simp
          with_reducible rfl
         rotate_left
         ·simp only [Act.put,List.setIfInBounds_toArray,List.set_cons_zero,List.set_cons_succ,i64_w,i32_w]
          rfl
         refine take_ (i:=13) (N:=some 95) (v:=?_) (a':=?_) #[true,true,true,true,false,true,true,false,true,true,false,true,true,true,true,true,false,true,true,false,false,false,false,false,false,false,false] rfl rfl (take_ofW HT_.out HW_.out (by kernel_rfl)) (fun _ _ _ h=>h) (Or.inl ⟨by rfl,?_⟩) hHeld ?_ ?_
         rotate_left
         ·rintro w' ⟨s0,s1,s2,s3,s4,s5,s6⟩
          go_simp
          with_reducible rfl
         rotate_left
         ·simp only [Act.put,List.setIfInBounds_toArray,List.set_cons_zero,List.set_cons_succ,i64_w,i32_w]
          rfl
         refine take_ (i:=16) (N:=some 98) (v:=?_) (a':=?_) #[true,true,true,true,false,true,true,false,true,true,false,true,true,true,true,true,true,true,true,false,false,false,false,false,false,false,false] rfl rfl (take_ofW HT_.out HW_.out (by kernel_rfl)) (fun _ _ _ h=>h) (Or.inl ⟨by rfl,?_⟩) hHeld ?_ ?_
         rotate_left
         ·rintro w' ⟨s0,s1,s2,s3,s4,s5,s6⟩
          go_simp
          with_reducible rfl
         rotate_left
         ·simp only [Act.put,List.setIfInBounds_toArray,List.set_cons_zero,List.set_cons_succ,i64_w,i32_w]
          rfl
         refine take_ (i:=19) (N:=some 101) (v:=?_) (a':=?_) #[true,true,true,true,false,true,true,false,true,true,false,true,true,true,true,true,true,true,true,true,false,false,false,false,false,false,false] rfl rfl (take_ofW HT_.out HW_.out (by kernel_rfl)) (fun _ _ _ h=>h) (Or.inl ⟨by rfl,?_⟩) hHeld ?_ ?_
         rotate_left
         ·rintro w' ⟨s0,s1,s2,s3,s4,s5,s6⟩
          go_simp
          with_reducible rfl
         rotate_left
         ·simp only [Act.put,List.setIfInBounds_toArray,List.set_cons_zero,List.set_cons_succ,i64_w,i32_w]
          rfl
         refine one_ (i:=4) (N:=some 86) #[true,true,true,true,true,true,true,false,true,true,false,true,true,true,true,true,true,true,true,true,false,false,false,false,false,false,false] rfl rfl (one_of HT_.out (by kernel_rfl)) (by decide) (fun K hK=>?_)
         refine goes_ Try.func19 (by kernel_rfl) rfl #[.slice A50 x.f0.length c50] (by rfl) rfl rfl (by (try simp only [List.map_toArray,List.map_cons,List.map_nil]);first | done | rfl | (simp only [List.length_drop,List.length_take];rfl)) ?_
         with_reducible refine Calls.mono (room_any _ x.f0 A50 c50 ?_ HX0.out) ?_
         ·(repeat (first | exact HC0.out | (with_reducible refine Kd.C_drewN ?_ _) | (with_reducible refine Kd.C_drew ?_)))
         rintro e w2 ⟨g0,p0,rfl,HR0,HE1⟩
         refine ⟨_,rfl,?_⟩
         have HB1:=Lib.hid (undrew HE1.out)
         have HN1:=Lib.hid (Kd.C_below HC1.out HB1.out)
         have z:=S6_blk (blkB HB1.out HFa.out)
         have qq1:=cellB HB1.out q
         refine hK.out _ _ (⟨z.1,z.2.1,z.2.2.1,z.2.2.2.1,z.2.2.2.2.1,z.2.2.2.2.2,qq1⟩) (fun hHeld=>?_)
         clear hK K
         refine norm_ (a':=?_) ?_ ?_
         rotate_left
         ·show Act.put _ (some 86) _ = _
          simp only [Act.put,List.setIfInBounds_toArray,List.set_cons_zero,List.set_cons_succ,i64_w,i32_w]
          rfl
         refine one_ (i:=7) (N:=some 89) #[true,true,true,true,true,true,true,true,true,true,false,true,true,true,true,true,true,true,true,true,false,false,false,false,false,false,false] rfl rfl (one_of HT_.out (by kernel_rfl)) (by decide) (fun K hK=>?_)
         refine goes_ Try.func19 (by kernel_rfl) rfl #[.slice A51 x.f1.length c51] (by rfl) rfl rfl (by (try simp only [List.map_toArray,List.map_cons,List.map_nil]);first | done | rfl | (simp only [List.length_drop,List.length_take];rfl)) ?_
         with_reducible refine Calls.mono (room_any _ x.f1 A51 c51 ?_ HX1.out) ?_
         ·(repeat (first | exact HN1.out | (with_reducible refine Kd.C_drewN ?_ _) | (with_reducible refine Kd.C_drew ?_)))
         rintro e w3 ⟨g1,p1,rfl,HR1,HE2⟩
         refine ⟨_,rfl,?_⟩
         have HB2:=Lib.hid (below_then HB1.out HB1.out.size HE2.out)
         have HN2:=Lib.hid (Kd.C_below HC3.out HB2.out)
         have z:=S6_blk (blkB HB2.out HFa.out)
         have qq2:=cellB HB2.out q
         refine hK.out _ _ (⟨z.1,z.2.1,z.2.2.1,z.2.2.2.1,z.2.2.2.2.1,z.2.2.2.2.2,qq2⟩) (fun hHeld=>?_)
         clear hK K
         refine norm_ (a':=?_) ?_ ?_
         rotate_left
         ·show Act.put _ (some 89) _ = _
          simp only [Act.put,List.setIfInBounds_toArray,List.set_cons_zero,List.set_cons_succ,i64_w,i32_w]
          rfl
         refine one_ (i:=10) (N:=some 92) (bl 20 27) rfl rfl (one_of HT_.out (by kernel_rfl)) (by decide) (fun K hK=>?_)
         refine goes_ Try.func19 (by kernel_rfl) rfl #[.slice A55 x.f3.length c55] (by rfl) rfl rfl (by (try simp only [List.map_toArray,List.map_cons,List.map_nil]);first | done | rfl | (simp only [List.length_drop,List.length_take];rfl)) ?_
         with_reducible refine Calls.mono (room_any _ x.f3 A55 c55 ?_ HX3.out) ?_
         ·(repeat (first | exact HN2.out | (with_reducible refine Kd.C_drewN ?_ _) | (with_reducible refine Kd.C_drew ?_)))
         rintro e w4 ⟨g3,p3,rfl,HR3,HE3⟩
         refine ⟨_,rfl,?_⟩
         have HB3:=Lib.hid (below_then HB2.out HB2.out.size HE3.out)
         have HN3:=Lib.hid (Kd.C_below HC2.out HB3.out)
         have z:=S6_blk (blkB HB3.out HFa.out)
         have qq3:=cellB HB3.out q
         refine hK.out _ _ (⟨z.1,z.2.1,z.2.2.1,z.2.2.2.1,z.2.2.2.2.1,z.2.2.2.2.2,qq3⟩) (fun hHeld=>?_)
         clear hK K
         refine norm_ (a':=?_) ?_ ?_
         rotate_left
         ·show Act.put _ (some 92) _ = _
          simp only [Act.put,List.setIfInBounds_toArray,List.set_cons_zero,List.set_cons_succ,i64_w,i32_w]
          rfl
         refine one_ (i:=20) (N:=some 102) (bl 21 27) rfl rfl (one_of HT_.out (by kernel_rfl)) (by decide) (fun K hK=>?_)
         refine goes_ Try.func19 (by kernel_rfl) rfl #[.slice A54 x.f2.f2.length c54] (by rfl) rfl rfl (by (try simp only [List.map_toArray,List.map_cons,List.map_nil]);first | done | rfl | (simp only [List.length_drop,List.length_take];rfl)) ?_
         with_reducible refine Calls.mono (room_any _ x.f2.f2 A54 c54 ?_ HX2.out) ?_
         ·(repeat (first | exact HN3.out | (with_reducible refine Kd.C_drewN ?_ _) | (with_reducible refine Kd.C_drew ?_)))
         rintro e w5 ⟨g2,p2,rfl,HR2,HE4⟩
         refine ⟨_,rfl,?_⟩
         have HB4:=Lib.hid (below_then HB3.out HB3.out.size HE4.out)
         have z:=S6_blk (blkB HB4.out HFa.out)
         have qq4:=cellB HB4.out q
         have qq5:=cellO qq4 (.cells #[.slice (some ⟨g0,0,none⟩) x.f0.length p0,.slice (some ⟨g1,0,none⟩) x.f1.length p1,.int .i64 x.f2.f0,.int .i64 x.f2.f1,.slice (some ⟨g2,0,none⟩) x.f2.f2.length p2,.slice (some ⟨g3,0,none⟩) x.f3.length p3] 46)
         have HF5:=Lib.hid (blkB HB4.out HFa.out)
         have HG5:=Lib.hid (HGa.out.then_ HB4.out)
         have HRB5:=Lib.hid (Kd.R_below HRa.out HB4.out)
         have HZ:=HGa.out.below.size
         have HM5:=Lib.hid (f46_mk x true (Kd.M_below (Kd.M_below (Kd.M_below (kL_M HR0.out HZ) HE2.out) HE3.out) HE4.out) (Kd.M_below (Kd.M_below (kL_M HR1.out (Nat.le_trans HZ HB1.out.size)) HE3.out) HE4.out) (kL_M HR2.out (Nat.le_trans HZ HB3.out.size)) (Kd.M_below (kL_M HR3.out (Nat.le_trans HZ HB2.out.size)) HE4.out))
         clear HZ
         refine hK.out _ _ (⟨z.1,z.2.1,z.2.2.1,z.2.2.2.1,z.2.2.2.2.1,z.2.2.2.2.2,qq4⟩) (fun hHeld=>?_)
         clear hK K
         refine norm_ (a':=?_) ?_ ?_
         rotate_left
         ·show Act.put _ (some 102) _ = _
          simp only [Act.put,List.setIfInBounds_toArray,List.set_cons_zero,List.set_cons_succ,i64_w,i32_w]
          rfl
         refine pure_ (i:=21) (N:=some 103) (v:=?_) (a':=?_) (bl 22 27) rfl rfl (any_of HT_.out (by kernel_rfl)) (fun _ _ _ h=>h) (Or.inl ⟨by rfl,?_⟩) ?_ ?_
         rotate_left
         ·intro w'
          go_simp
          with_reducible rfl
         rotate_left
         ·simp only [Act.put,List.setIfInBounds_toArray,List.set_cons_zero,List.set_cons_succ,i64_w,i32_w]
          rfl
         refine pure_ (i:=22) (N:=some 104) (v:=?_) (a':=?_) (bl 23 27) rfl rfl (any_of HT_.out (by kernel_rfl)) (fun _ _ _ h=>h) (Or.inl ⟨by rfl,?_⟩) ?_ ?_
         rotate_left
         ·intro w'
          go_simp
          with_reducible rfl
         rotate_left
         ·simp only [Act.put,List.setIfInBounds_toArray,List.set_cons_zero,List.set_cons_succ,i64_w,i32_w]
          rfl
         refine one_ (i:=23) (N:=some 105) (bl 24 27) rfl rfl (one_of HT_.out (by kernel_rfl)) (by decide) (fun K hK=>?_)
         refine value_ (w1:=?_) (v:=?_) (by rfl) rfl ?_ ?_
         rotate_left 2
         ·go_simp
          constructor
          ·rfl
          ·rfl
         refine hK.out _ _ (⟨cellO z.1 _,cellO z.2.1 _,cellO z.2.2.1 _,cellO z.2.2.2.1 _,cellO z.2.2.2.2.1 _,cellO z.2.2.2.2.2 _,qq5⟩) (fun hHeld=>?_)
         clear hK K
         refine norm_ (a':=?_) ?_ ?_
         rotate_left
         ·show Act.put _ (some 105) _ = _
          simp only [Act.put,List.setIfInBounds_toArray,List.set_cons_zero,List.set_cons_succ,i64_w,i32_w]
          rfl
         refine one_ (i:=24) (N:=some 106) (bl 25 27) rfl rfl (one_of HT_.out (by kernel_rfl)) (by decide) (fun K hK=>?_)
         refine app_at f46 w5 wi.heap.size (by rfl) (.tmp 83) (.tmp 105) 36 46 (.agg #[.slice none 0 0,.slice none 0 0,.int .i64 0,.int .i64 0,.slice none 0 0,.slice none 0 0]) 112 (by rfl) Try.underlying36 info46 (by rfl) (by decide) (by decide) (.slice AB j cB) (tt (f.f4.take j)) (x,true) [.slice (some ⟨g0,0,none⟩) x.f0.length p0,.slice (some ⟨g1,0,none⟩) x.f1.length p1,.int .i64 x.f2.f0,.int .i64 x.f2.f1,.slice (some ⟨g2,0,none⟩) x.f2.f2.length p2,.slice (some ⟨g3,0,none⟩) x.f3.length p3] (by rfl) (by rfl) (by rfl) HM5.out (by decide) HRB5.out HG5.out.below.size HBD.out ?_
         intro v1 w6 hR6 hg6
         have e6:=Kd.R_slice hR6
         rw [HLEN.out] at e6
         obtain ⟨A7,c7,e7⟩:=e6
         subst e7
         have hq4:=grown_ty hg6 (Kd.R_typed HRB5.out) HG5.out.gb HD.out
         have c44:=(S5_blk hq4).2.2.2.2
         have f44:=blk_frozen hq4 4
         have hv4:=(hg6.block gv (blk_lt HF5.out) HNV.out).trans HF5.out
         have z:=S6_blk hv4
         have HR6:=Lib.hid hR6
         have HG6:=Lib.hid hg6
         clear hR6 hg6 hq4 hv4
         refine hK.out _ _ (⟨z.1,z.2.1,z.2.2.1,z.2.2.2.1,z.2.2.2.2.1,z.2.2.2.2.2,c44⟩) (fun hHeld=>?_)
         clear hK K
         refine norm_ (a':=?_) ?_ ?_
         rotate_left
         ·show Act.put _ (some 106) _ = _
          simp only [Act.put,List.setIfInBounds_toArray,List.set_cons_zero,List.set_cons_succ,i64_w,i32_w]
          rfl
         refine pure_ (i:=25) (N:=some 107) (v:=?_) (a':=?_) (bl 26 27) rfl rfl (any_of HT_.out (by kernel_rfl)) (fun _ _ _ h=>h) (Or.inl ⟨by rfl,?_⟩) ?_ ?_
         rotate_left
         ·intro w'
          go_simp
          with_reducible rfl
         rotate_left
         ·simp only [Act.put,List.setIfInBounds_toArray,List.set_cons_zero,List.set_cons_succ,i64_w,i32_w]
          rfl
         refine last_ (i:=26) (N:=none) (bl 27 27) rfl rfl (one_of HT_.out (by kernel_rfl)) (by decide) (fun K hK=>?_)
         refine skip_ (w1:=?_) (by rfl) rfl ?_ ?_
         rotate_left
         ·go_simp
          rfl
         refine hK.out _ _ ?_
         clear hK K
         refine done_ (done_of HT_.out (by kernel_rfl)) ?_
         all_goals
          have HG7:Hid (Lg (tl 42 f42 [m42]) (Kd.slice 46 f46) wi (w6.setCell ⟨gg,4,none⟩ (.slice A7 (j + 1) c7)) gf gg fc f.f0 f.f2 f.f1 vP (.slice A6 f.f3.length c6) (.slice A7 (j + 1) c7) (tt f.f3,true) (tt (f.f4.take (j + 1)))):=Lib.hid (by
           have hb:=HG5.out.newB HG6.out (fun k hk=>⟨Kd.R_base HRB5.out k hk,Kd.R_typed HRB5.out k hk⟩) (KB':=Kd.slice 46 f46) (xb':=tt (f.f4.take j) ++ [(x,true)]) ⟨_,rfl,HR6.out⟩ (by decide) (by decide)
           rw [← HXT.out] at hb
           exact hb)
          have hjb:f.f4.length ≤ 1000000000:=HLF.out.b
          go_wp2_with (fail)
          go_roundg (gk - 1)
          case measure=>have:=HJ.out;omega
          case rel=>exact ⟨j + 1,A7,c7,by omega,by go_num,Lib.hid (by have:=HJ.out;omega),HG7⟩
        ·have hje:j = f.f4.length:=by omega
         subst hje
         clear hjl hj HJ
         have hRV:f46.R 46 wr wi.heap.size (fun _=>True) (.slice AB f.f4.length cB) (tt f.f4):=by
          obtain ⟨v,e,h⟩:=HG.out.rb
          injection e with e _
          rw [e]
          rw [List.take_length] at h
          exact h
         have HLEN:Hid ((tt f.f4 ++ [m46]).length = f.f4.length + 1):=Lib.hid (by unfold tt;simp)
         have HBD:Hid (((tt f.f4).length + 1) * 112 ≤ 140737488355328):=Lib.hid (by have:=HLF.out.b;unfold tt;simp;omega)
         have HM:=Lib.hid (f46_mk (W:=wr.drew) (ok:=fun _=>True) ⟨[],[],⟨-71,0,[]⟩,[]⟩ false (kL_nil wr.drew wi.heap.size) (kL_nil wr.drew wi.heap.size) (kL_nil wr.drew wi.heap.size) (kL_nil wr.drew wi.heap.size))
         have HRV:=Lib.hid (Kd.R_drew hRV)
         have HGd:=Lib.hid (HG.out.then_ (below_drew (Below.refl _ _)))
         have q:wr.cell? ⟨gg,4,none⟩ = some (.slice AB f.f4.length cB):=(blk_cell HG.out.gb 4).trans rfl
         have q1:=cellO q (.cells #[.slice none 0 0,.slice none 0 0,.int .i64 (-71),.int .i64 0,.slice none 0 0,.slice none 0 0] 46)
         have y:=f4
         have HNE:=Lib.hid HG.out.ne
         have h3846:(38:Nat) ≠ 46:=by decide
         have HD:=Lib.hid h3846
         obtain ⟨i046,hi046,_,hsz46,_⟩:=info_parts info46
         have HI46:=Lib.hid hi046
         have HP0:=Lib.hid (show (0:Int) ≤ (f.f4.length:Int) by omega)
         have HP1:=Lib.hid (show (f.f4.length:Int) ≤ ((f.f4.length + 1:Nat):Int) by omega)
         clear hfb hRV h3846 hi046 hsz46
         go_wp2_with (fail)
         go_cut [] (fun wx=>∃ (A8:Option Addr) (c8:Nat),Hid (Lg (tl 42 f42 [m42]) (tl 46 f46 [m46]) wi wx gf gg fc f.f0 f.f2 f.f1 vP (.slice A6 f.f3.length c6) (.slice A8 f.f4.length c8) (tt f.f3,true) (tt f.f4,true)))
         case first=>
          refine start_ (n:=12) (S:=fun w'=>w'.cell? ⟨gf,4,none⟩ = some (.slice A4 f.f4.length c4) ∧ w'.cell? ⟨gg,4,none⟩ = some (.slice AB f.f4.length cB)) (ds:=[11]) (bl 0 12) (by kernel_rfl) rfl rfl (⟨cellD y,cellD q⟩) (fun hHeld=>?_)
          refine with_tabW lent_tab18 lent_bits18 (fun HT_ HW_=>?_)
          refine pure_ (i:=0) (N:=some 108) (v:=?_) (a':=?_) (bl 1 12) rfl rfl (any_of HT_.out (by kernel_rfl)) (fun _ _ _ h=>h) (Or.inl ⟨by rfl,?_⟩) ?_ ?_
          rotate_left
          ·intro w'
           go_simp
           with_reducible rfl
          rotate_left
          ·simp only [Act.put,List.setIfInBounds_toArray,List.set_cons_zero,List.set_cons_succ,i64_w,i32_w]
           rfl
          refine pure_ (i:=2) (N:=some 110) (v:=?_) (a':=?_) #[true,false,true,false,false,false,false,false,false,false,false,false] rfl rfl (any_of HT_.out (by kernel_rfl)) (fun _ _ _ h=>h) (Or.inl ⟨by rfl,?_⟩) ?_ ?_
          rotate_left
          ·intro w'
           go_simp
           with_reducible rfl
          rotate_left
          ·simp only [Act.put,List.setIfInBounds_toArray,List.set_cons_zero,List.set_cons_succ,i64_w,i32_w]
           rfl
          refine pure_ (i:=3) (N:=some 111) (v:=?_) (a':=?_) #[true,false,true,true,false,false,false,false,false,false,false,false] rfl rfl (any_of HT_.out (by kernel_rfl)) (fun _ _ _ h=>h) (Or.inl ⟨by rfl,?_⟩) ?_ ?_
          rotate_left
          ·intro w'
           go_simp
           with_reducible rfl
          rotate_left
          ·simp only [Act.put,List.setIfInBounds_toArray,List.set_cons_zero,List.set_cons_succ,i64_w,i32_w]
           rfl
          refine pure_ (i:=6) (N:=some 114) (v:=?_) (a':=?_) #[true,false,true,true,false,false,true,false,false,false,false,false] rfl rfl (any_of HT_.out (by kernel_rfl)) (fun _ _ _ h=>h) (Or.inl ⟨by rfl,?_⟩) ?_ ?_
          rotate_left
          ·intro w'
           go_simp
           with_reducible rfl
          rotate_left
          ·simp only [Act.put,List.setIfInBounds_toArray,List.set_cons_zero,List.set_cons_succ,i64_w,i32_w]
           rfl
          refine take_ (i:=1) (N:=some 109) (v:=?_) (a':=?_) #[true,true,true,true,false,false,true,false,false,false,false,false] rfl rfl (take_ofW HT_.out HW_.out (by kernel_rfl)) (fun _ _ _ h=>h) (Or.inl ⟨by rfl,?_⟩) hHeld ?_ ?_
          rotate_left
          ·rintro w' ⟨s0,s1⟩
           go_simp
           with_reducible rfl
          rotate_left
          ·simp only [Act.put,List.setIfInBounds_toArray,List.set_cons_zero,List.set_cons_succ,i64_w,i32_w]
           rfl
          refine take_ (i:=7) (N:=some 115) (v:=?_) (a':=?_) #[true,true,true,true,false,false,true,true,false,false,false,false] rfl rfl (take_ofW HT_.out HW_.out (by kernel_rfl)) (fun _ _ _ h=>h) (Or.inl ⟨by rfl,?_⟩) hHeld ?_ ?_
          rotate_left
          ·rintro w' ⟨s0,s1⟩
           go_simp
           with_reducible rfl
          rotate_left
          ·simp only [Act.put,List.setIfInBounds_toArray,List.set_cons_zero,List.set_cons_succ,i64_w,i32_w]
           rfl
          refine pure_ (i:=8) (N:=some 116) (v:=?_) (a':=?_) #[true,true,true,true,false,false,true,true,true,false,false,false] rfl rfl (any_of HT_.out (by kernel_rfl)) (fun _ _ _ h=>h) (Or.inl ⟨by rfl,?_⟩) ?_ ?_
          rotate_left
          ·intro w'
           go_simp
           with_reducible rfl
          rotate_left
          ·simp only [Act.put,List.setIfInBounds_toArray,List.set_cons_zero,List.set_cons_succ,i64_w,i32_w]
           rfl
          refine one_ (i:=4) (N:=some 112) #[true,true,true,true,true,false,true,true,true,false,false,false] rfl rfl (one_of HT_.out (by kernel_rfl)) (by decide) (fun K hK=>?_)
          refine value_ (w1:=?_) (v:=?_) (by rfl) rfl ?_ ?_
          rotate_left 2
          ·go_simp
           constructor
           ·rfl
           ·rfl
          refine hK.out _ _ (⟨cellO (cellD y) _,cellO (cellD q) _⟩) (fun hHeld=>?_)
          clear hK K
          refine norm_ (a':=?_) ?_ ?_
          rotate_left
          ·show Act.put _ (some 112) _ = _
           simp only [Act.put,List.setIfInBounds_toArray,List.set_cons_zero,List.set_cons_succ,i64_w,i32_w]
           rfl
          refine one_ (i:=5) (N:=some 113) (bl 9 12) rfl rfl (one_of HT_.out (by kernel_rfl)) (by decide) (fun K hK=>?_)
          refine app_at f46 wr.drew wi.heap.size (by rfl) (.tmp 109) (.tmp 112) 36 46 (.agg #[.slice none 0 0,.slice none 0 0,.int .i64 0,.int .i64 0,.slice none 0 0,.slice none 0 0]) 112 (by rfl) Try.underlying36 info46 (by rfl) (by decide) (by decide) (.slice AB f.f4.length cB) (tt f.f4) m46 [.slice none 0 0,.slice none 0 0,.int .i64 (-71),.int .i64 0,.slice none 0 0,.slice none 0 0] (by rfl) (by rfl) (by rfl) HM.out (by decide) HRV.out HGd.out.below.size HBD.out ?_
          intro v1 w4 hR4 hg4
          have e6:=Kd.R_slice hR4
          rw [HLEN.out] at e6
          obtain ⟨A8,c8,e7⟩:=e6
          subst e7
          have hq4:=grown_ty hg4 (Kd.R_typed HRV.out) HGd.out.gb HD.out
          have hf4:=grown_ty hg4 (Kd.R_typed HRV.out) HGd.out.fb HD.out
          rw [HFC.out] at hf4
          have z:=(S5_blk hf4).2.2.2.2
          have c43:=(S5_blk hq4).2.2.2.2
          have f43:=blk_frozen hq4 4
          have hcut:=cut_to (P:=Try.prog) 36 46 .i64 Try.underlying36 HI46.out A8 (f.f4.length + 1) c8 (f.f4.length:Int) HP0.out HP1.out (Kd.R_reads' hR4).2.1
          have HR4:=Lib.hid hR4
          have HG4:=Lib.hid hg4
          clear hR4 hg4 hq4 hf4
          refine hK.out _ _ (⟨z,c43⟩) (fun hHeld=>?_)
          clear hK K
          refine norm_ (a':=?_) ?_ ?_
          rotate_left
          ·show Act.put _ (some 113) _ = _
           simp only [Act.put,List.setIfInBounds_toArray,List.set_cons_zero,List.set_cons_succ,i64_w,i32_w]
           rfl
          refine pure_ (i:=9) (N:=some 117) (v:=?_) (a':=?_) (bl 10 12) rfl rfl (any_of HT_.out (by kernel_rfl)) (fun _ _ _ h=>h) (Or.inl ⟨by rfl,?_⟩) ?_ ?_
          rotate_left
          ·intro w'
           go_simp
           with_reducible rfl
          rotate_left
          ·simp only [Act.put,List.setIfInBounds_toArray,List.set_cons_zero,List.set_cons_succ,i64_w,i32_w]
           rfl
          refine pure_ (i:=10) (N:=some 118) (v:=?_) (a':=?_) (bl 11 12) rfl rfl (any_of HT_.out (by kernel_rfl)) (fun _ _ _ h=>h) (Or.inl ⟨by rfl,?_⟩) ?_ ?_
          rotate_left
          ·intro w'
           go_simp
           with_reducible rfl
          rotate_left
          ·simp only [Act.put,List.setIfInBounds_toArray,List.set_cons_zero,List.set_cons_succ,i64_w,i32_w]
           rfl
          refine last_ (i:=11) (N:=none) (bl 12 12) rfl rfl (one_of HT_.out (by kernel_rfl)) (by decide) (fun K hK=>?_)
          refine skip_ (w1:=?_) (by rfl) rfl ?_ ?_
          rotate_left
          ·go_simp
           rfl
          refine hK.out _ _ ?_
          clear hK K
          refine done_ (done_of HT_.out (by kernel_rfl)) ?_
          all_goals
           go_wp2_with (fail)
           go_meet
          all_goals
           refine ⟨A8,c8,Lib.hid ?_⟩
           exact HGd.out.newB HG4.out (fun k hk=>⟨Kd.R_base HRV.out k hk,Kd.R_typed HRV.out k hk⟩) (KB':=tl 46 f46 [m46]) (xb':=(tt f.f4,true)) (tl_mk HR4.out (by unfold tt;simp) rfl) (by decide) (by decide)
         case rest=>
          obtain ⟨A8,c8,HG9⟩:=hcut
          clear HLEN HBD HM HRV HGd q q1 y HNE HD HI46 HP0 HP1 f4 HG
          rw [HVP.out] at HG9
          have HLEN:Hid ((tt (ps.take i) ++ [(f,true)]).length = i + 1):=Lib.hid (by unfold tt;simp;omega)
          have HBD:Hid (((tt (ps.take i)).length + 1) * 96 ≤ 140737488355328):=Lib.hid (by have:=HN.out;unfold tt;simp;omega)
          have HLd:=Lib.hid (HLN.out.then_ (below_then HG9.out.below HG9.out.below.size (below_drew (Below.refl _ _))))
          have HM:=Lib.hid (f38.M_lower HLN.out.below.size (f38_mk f true (Kd.M_below HG9.out.rp (below_drew (Below.refl _ _))) (Kd.M_below HG9.out.rv (below_drew (Below.refl _ _))) (Kd.M_below HG9.out.rb (below_drew (Below.refl _ _)))))
          have y:=S5_blk HG9.out.gb
          have hlb:=HLN.out.then_ HG9.out.below
          have q:=(S2_blk hlb.lb).1
          have q1:=cellO q (.cells #[.string f.f0,.slice (some ⟨gp,0,none⟩) f.f1.length cp,.int .i64 f.f2,.slice A6 f.f3.length c6,.slice A8 f.f4.length c8] 38)
          have HNL:=Lib.hid (ty_ne HG9.out.gb hlb.lb (by decide))
          have HRG:Hid (∀ (w4:World),wc.drew.grownBy w4 (Value.slice AF i cF).ownBlock → w4.heap[gg]? = some (.cells #[.string f.f0,.slice (some ⟨gp,0,none⟩) f.f1.length cp,.int .i64 f.f2,.slice A6 f.f3.length c6,.slice A8 f.f4.length c8] 38 (0,0))):=Lib.hid (fun w4 hg=>(hg.block gg (blk_lt HG9.out.gb) (fun e=>by have:=Kd.R_lt HLN.out.rf gg e.symm;have:=HG9.out.ge.2;omega)).trans HG9.out.gb)
          have h3832:(32:Nat) ≠ 38:=by decide
          have HD:=Lib.hid h3832
          clear hlb h3832
          go_wp2_with (fail)
          refine start_ (n:=13) (S:=fun w'=>w'.cell? ⟨gg,0,none⟩ = some (.string f.f0) ∧ w'.cell? ⟨gg,1,none⟩ = some (.slice (some ⟨gp,0,none⟩) f.f1.length cp) ∧ w'.cell? ⟨gg,2,none⟩ = some (.int .i64 f.f2) ∧ w'.cell? ⟨gg,3,none⟩ = some (.slice A6 f.f3.length c6) ∧ w'.cell? ⟨gg,4,none⟩ = some (.slice A8 f.f4.length c8) ∧ w'.cell? ⟨gL,0,none⟩ = some (.slice AF i cF)) (ds:=[12]) (bl 0 13) (by kernel_rfl) rfl rfl (⟨cellD y.1,cellD y.2.1,cellD y.2.2.1,cellD y.2.2.2.1,cellD y.2.2.2.2,cellD q⟩) (fun hHeld=>?_)
          refine with_tabW lent_tab19 lent_bits19 (fun HT_ HW_=>?_)
          refine pure_ (i:=0) (N:=some 119) (v:=?_) (a':=?_) (bl 1 13) rfl rfl (any_of HT_.out (by kernel_rfl)) (fun _ _ _ h=>h) (Or.inl ⟨by rfl,?_⟩) ?_ ?_
          rotate_left
          ·intro w'
           go_simp
           with_reducible rfl
          rotate_left
          ·simp only [Act.put,List.setIfInBounds_toArray,List.set_cons_zero,List.set_cons_succ,i64_w,i32_w]
           rfl
          refine pure_ (i:=1) (N:=some 120) (v:=?_) (a':=?_) (bl 2 13) rfl rfl (any_of HT_.out (by kernel_rfl)) (fun _ _ _ h=>h) (Or.inl ⟨by rfl,?_⟩) ?_ ?_
          rotate_left
          ·intro w'
           go_simp
           with_reducible rfl
          rotate_left
          ·simp only [Act.put,List.setIfInBounds_toArray,List.set_cons_zero,List.set_cons_succ,i64_w,i32_w]
           rfl
          refine pure_ (i:=2) (N:=some 121) (v:=?_) (a':=?_) (bl 3 13) rfl rfl (any_of HT_.out (by kernel_rfl)) (fun _ _ _ h=>h) (Or.inl ⟨by rfl,?_⟩) ?_ ?_
          rotate_left
          ·intro w'
           go_simp
           with_reducible rfl
          rotate_left
          ·simp only [Act.put,List.setIfInBounds_toArray,List.set_cons_zero,List.set_cons_succ,i64_w,i32_w]
           rfl
          refine pure_ (i:=3) (N:=some 122) (v:=?_) (a':=?_) (bl 4 13) rfl rfl (any_of HT_.out (by kernel_rfl)) (fun _ _ _ h=>h) (Or.inl ⟨by rfl,?_⟩) ?_ ?_
          rotate_left
          ·intro w'
           go_simp
           with_reducible rfl
          rotate_left
          ·simp only [Act.put,List.setIfInBounds_toArray,List.set_cons_zero,List.set_cons_succ,i64_w,i32_w]
           rfl
          refine pure_ (i:=4) (N:=some 123) (v:=?_) (a':=?_) (bl 5 13) rfl rfl (any_of HT_.out (by kernel_rfl)) (fun _ _ _ h=>h) (Or.inl ⟨by rfl,?_⟩) ?_ ?_
          rotate_left
          ·intro w'
           go_simp
           with_reducible rfl
          rotate_left
          ·simp only [Act.put,List.setIfInBounds_toArray,List.set_cons_zero,List.set_cons_succ,i64_w,i32_w]
           rfl
          refine take_ (i:=5) (N:=some 124) (v:=?_) (a':=?_) (bl 6 13) rfl rfl (take_ofW HT_.out HW_.out (by kernel_rfl)) (fun _ _ _ h=>h) (Or.inl ⟨by rfl,?_⟩) hHeld ?_ ?_
          rotate_left
          ·rintro w' ⟨s0,s1,s2,s3,s4,s5⟩
           go_simp
           with_reducible rfl
          rotate_left
          ·simp only [Act.put,List.setIfInBounds_toArray,List.set_cons_zero,List.set_cons_succ,i64_w,i32_w]
           rfl
          refine take_ (i:=6) (N:=some 125) (v:=?_) (a':=?_) (bl 7 13) rfl rfl (take_ofW HT_.out HW_.out (by kernel_rfl)) (fun _ _ _ h=>h) (Or.inl ⟨by rfl,?_⟩) hHeld ?_ ?_
          rotate_left
          ·rintro w' ⟨s0,s1,s2,s3,s4,s5⟩
           go_simp
           with_reducible rfl
          rotate_left
          ·simp only [Act.put,List.setIfInBounds_toArray,List.set_cons_zero,List.set_cons_succ,i64_w,i32_w]
           rfl
          refine one_ (i:=7) (N:=some 126) (bl 8 13) rfl rfl (one_of HT_.out (by kernel_rfl)) (by decide) (fun K hK=>?_)
          refine value_ (w1:=?_) (v:=?_) (by rfl) rfl ?_ ?_
          rotate_left 2
          ·go_simp
           constructor
           ·rfl
           ·rfl
          refine hK.out _ _ (⟨cellO (cellD y.1) _,cellO (cellD y.2.1) _,cellO (cellD y.2.2.1) _,cellO (cellD y.2.2.2.1) _,cellO (cellD y.2.2.2.2) _,cellO (cellD q) _⟩) (fun hHeld=>?_)
          clear hK K
          refine norm_ (a':=?_) ?_ ?_
          rotate_left
          ·show Act.put _ (some 126) _ = _
           simp only [Act.put,List.setIfInBounds_toArray,List.set_cons_zero,List.set_cons_succ,i64_w,i32_w]
           rfl
          refine one_ (i:=8) (N:=some 127) (bl 9 13) rfl rfl (one_of HT_.out (by kernel_rfl)) (by decide) (fun K hK=>?_)
          refine app_at f38 wc.drew w.heap.size (by rfl) (.tmp 124) (.tmp 126) 22 38 (.agg #[(.string ⟨#[]⟩),(.slice none 0 0),(.int .i64 0),(.slice none 0 0),(.slice none 0 0)]) 96 (by rfl) Try.underlying22 info38 (by rfl) (by decide) (by decide) (.slice AF i cF) (tt (ps.take i)) (f,true) [.string f.f0,.slice (some ⟨gp,0,none⟩) f.f1.length cp,.int .i64 f.f2,.slice A6 f.f3.length c6,.slice A8 f.f4.length c8] (by rfl) (by rfl) (by rfl) HM.out (by decide) HLd.out.rf HLd.out.below.size HBD.out ?_
          intro v1 w4 hR4 hg4
          have e6:=Kd.R_slice hR4
          rw [HLEN.out] at e6
          obtain ⟨A9,c9,e7⟩:=e6
          subst e7
          have hq4:=grown_ty hg4 (Kd.R_typed HLd.out.rf) HLd.out.lb HD.out
          have z:=S5_blk (HRG.out _ hg4)
          have c43:=(S2_blk hq4).1
          have f43:=blk_frozen hq4 0
          have HR4:=Lib.hid hR4
          have HG4:=Lib.hid hg4
          clear hR4 hg4 hq4
          refine hK.out _ _ (⟨z.1,z.2.1,z.2.2.1,z.2.2.2.1,z.2.2.2.2,c43⟩) (fun hHeld=>?_)
          clear hK K
          refine norm_ (a':=?_) ?_ ?_
          rotate_left
          ·show Act.put _ (some 127) _ = _
           simp only [Act.put,List.setIfInBounds_toArray,List.set_cons_zero,List.set_cons_succ,i64_w,i32_w]
           rfl
          refine pure_ (i:=9) (N:=some 128) (v:=?_) (a':=?_) (bl 10 13) rfl rfl (any_of HT_.out (by kernel_rfl)) (fun _ _ _ h=>h) (Or.inl ⟨by rfl,?_⟩) ?_ ?_
          rotate_left
          ·intro w'
           go_simp
           with_reducible rfl
          rotate_left
          ·simp only [Act.put,List.setIfInBounds_toArray,List.set_cons_zero,List.set_cons_succ,i64_w,i32_w]
           rfl
          refine pure_ (i:=10) (N:=some 129) (v:=?_) (a':=?_) (bl 11 13) rfl rfl (any_of HT_.out (by kernel_rfl)) (fun _ _ _ h=>h) (Or.inl ⟨by rfl,?_⟩) ?_ ?_
          rotate_left
          ·intro w'
           go_simp
           with_reducible rfl
          rotate_left
          ·simp only [Act.put,List.setIfInBounds_toArray,List.set_cons_zero,List.set_cons_succ,i64_w,i32_w]
           rfl
          refine pure_ (i:=11) (N:=some 130) (v:=?_) (a':=?_) (bl 12 13) rfl rfl (any_of HT_.out (by kernel_rfl)) (fun _ _ _ h=>h) (Or.inl ⟨by rfl,?_⟩) ?_ ?_
          rotate_left
          ·intro w'
           go_simp
           with_reducible rfl
          rotate_left
          ·simp only [Act.put,List.setIfInBounds_toArray,List.set_cons_zero,List.set_cons_succ,i64_w,i32_w]
           rfl
          refine last_ (i:=12) (N:=none) (bl 13 13) rfl rfl (one_of HT_.out (by kernel_rfl)) (by decide) (fun K hK=>?_)
          refine skip_ (w1:=?_) (by rfl) rfl ?_ ?_
          rotate_left
          ·go_simp
           rfl
          refine hK.out _ _ ?_
          clear hK K
          refine done_ (done_of HT_.out (by kernel_rfl)) ?_
          all_goals
           have HL9:Hid (Ln w (w4.setCell ⟨gL,0,none⟩ (.slice A9 (i + 1) c9)) gS gL (some ad) ps.length c m (.slice A9 (i + 1) c9) (tt (ps.take (i + 1)))):=Lib.hid (by
            rw [HTK.out]
            exact HLd.out.app HR4.out HG4.out)
           have hjb:ps.length ≤ 1000000000:=HN.out
           go_wp2_with (fail)
           go_roundg (go - 1)
           case measure=>have:=HI.out;omega
           case rel=>exact ⟨i + 1,A9,c9,by omega,by go_num,Lib.hid (by have:=HI.out;omega),HL9⟩
  ·have hie:i = ps.length:=by omega
   subst hie
   clear hlt hi HI
   have hlf:=HLN.out.rf
   rw [List.take_length] at hlf
   have HRV:=Lib.hid (Kd.R_drew hlf)
   have HLEN:Hid ((tt ps ++ [m38]).length = ps.length + 1):=Lib.hid (by unfold tt;simp)
   have HBD:Hid (((tt ps).length + 1) * 96 ≤ 140737488355328):=Lib.hid (by have:=HN.out;unfold tt;simp;omega)
   have HLd:=Lib.hid (HLN.out.then_ (below_drew (Below.refl _ _)))
   have HM:=Lib.hid (f38_mk (W:=wr.drew) (base:=w.heap.size) (ok:=fun _=>True) ⟨⟨#[109,97,114,107]⟩,[],0,[],[]⟩ false (kL_nil _ _) (tl_nil _ _ _ _ _) (tl_nil _ _ _ _ _))
   have y:=s0
   have q:=(S2_blk HLN.out.lb).1
   have q1:=cellO q (.cells #[.string ⟨#[109,97,114,107]⟩,.slice none 0 0,.int .i64 0,.slice none 0 0,.slice none 0 0] 38)
   have HNE:=Lib.hid (ty_ne HLN.out.sb HLN.out.lb (by decide))
   have HDL:=Lib.hid (show (32:Nat) ≠ 38 by decide)
   have HDS:=Lib.hid (show (24:Nat) ≠ 38 by decide)
   obtain ⟨i038,hi038,_,hsz38,_⟩:=info_parts info38
   have HI38:=Lib.hid hi038
   have HP:=Lib.hid (show 0 < ps.length + 1 by omega)
   have HP0:=Lib.hid (show (0:Int) ≤ (ps.length:Int) by omega)
   have HP1:=Lib.hid (show (ps.length:Int) ≤ ((ps.length + 1:Nat):Int) by omega)
   clear hlf hi038 hsz38
   go_wp2_with (fail)
   go_cut [] (fun wx=>∃ (gF c6:Nat),Hid (Lx w wx gS gL A ps.length c m gF c6 ps))
   case first=>
    refine start_ (n:=17) (S:=fun w'=>w'.cell? ⟨gS,0,none⟩ = some (.slice A ps.length c) ∧ w'.cell? ⟨gL,0,none⟩ = some (.slice AF ps.length cF)) (ds:=[16]) (bl 0 17) (by kernel_rfl) rfl rfl (⟨cellD y,cellD q⟩) (fun hHeld=>?_)
    refine with_tabW lent_tab20 lent_bits20 (fun HT_ HW_=>?_)
    refine pure_ (i:=0) (N:=some 131) (v:=?_) (a':=?_) (bl 1 17) rfl rfl (any_of HT_.out (by kernel_rfl)) (fun _ _ _ h=>h) (Or.inl ⟨by rfl,?_⟩) ?_ ?_
    rotate_left
    ·intro w'
     go_simp
     with_reducible rfl
    rotate_left
    ·simp only [Act.put,List.setIfInBounds_toArray,List.set_cons_zero,List.set_cons_succ,i64_w,i32_w]
     rfl
    refine pure_ (i:=1) (N:=some 132) (v:=?_) (a':=?_) (bl 2 17) rfl rfl (any_of HT_.out (by kernel_rfl)) (fun _ _ _ h=>h) (Or.inl ⟨by rfl,?_⟩) ?_ ?_
    rotate_left
    ·intro w'
     go_simp
     with_reducible rfl
    rotate_left
    ·simp only [Act.put,List.setIfInBounds_toArray,List.set_cons_zero,List.set_cons_succ,i64_w,i32_w]
     rfl
    refine pure_ (i:=2) (N:=some 133) (v:=?_) (a':=?_) (bl 3 17) rfl rfl (any_of HT_.out (by kernel_rfl)) (fun _ _ _ h=>h) (Or.inl ⟨by rfl,?_⟩) ?_ ?_
    rotate_left
    ·intro w'
     go_simp
     with_reducible rfl
    rotate_left
    ·simp only [Act.put,List.setIfInBounds_toArray,List.set_cons_zero,List.set_cons_succ,i64_w,i32_w]
     rfl
    refine pure_ (i:=3) (N:=some 134) (v:=?_) (a':=?_) (bl 4 17) rfl rfl (any_of HT_.out (by kernel_rfl)) (fun _ _ _ h=>h) (Or.inl ⟨by rfl,?_⟩) ?_ ?_
    rotate_left
    ·intro w'
     go_simp
     with_reducible rfl
    rotate_left
    ·simp only [Act.put,List.setIfInBounds_toArray,List.set_cons_zero,List.set_cons_succ,i64_w,i32_w]
     rfl
    refine pure_ (i:=4) (N:=some 135) (v:=?_) (a':=?_) (bl 5 17) rfl rfl (any_of HT_.out (by kernel_rfl)) (fun _ _ _ h=>h) (Or.inl ⟨by rfl,?_⟩) ?_ ?_
    rotate_left
    ·intro w'
     go_simp
     with_reducible rfl
    rotate_left
    ·simp only [Act.put,List.setIfInBounds_toArray,List.set_cons_zero,List.set_cons_succ,i64_w,i32_w]
     rfl
    refine pure_ (i:=6) (N:=some 137) (v:=?_) (a':=?_) #[true,true,true,true,true,false,true,false,false,false,false,false,false,false,false,false,false] rfl rfl (any_of HT_.out (by kernel_rfl)) (fun _ _ _ h=>h) (Or.inl ⟨by rfl,?_⟩) ?_ ?_
    rotate_left
    ·intro w'
     go_simp
     with_reducible rfl
    rotate_left
    ·simp only [Act.put,List.setIfInBounds_toArray,List.set_cons_zero,List.set_cons_succ,i64_w,i32_w]
     rfl
    refine pure_ (i:=9) (N:=some 140) (v:=?_) (a':=?_) #[true,true,true,true,true,false,true,false,false,true,false,false,false,false,false,false,false] rfl rfl (any_of HT_.out (by kernel_rfl)) (fun _ _ _ h=>h) (Or.inl ⟨by rfl,?_⟩) ?_ ?_
    rotate_left
    ·intro w'
     go_simp
     with_reducible rfl
    rotate_left
    ·simp only [Act.put,List.setIfInBounds_toArray,List.set_cons_zero,List.set_cons_succ,i64_w,i32_w]
     rfl
    refine take_ (i:=5) (N:=some 136) (v:=?_) (a':=?_) #[true,true,true,true,true,true,true,false,false,true,false,false,false,false,false,false,false] rfl rfl (take_ofW HT_.out HW_.out (by kernel_rfl)) (fun _ _ _ h=>h) (Or.inl ⟨by rfl,?_⟩) hHeld ?_ ?_
    rotate_left
    ·rintro w' ⟨s0,s1⟩
     go_simp
     with_reducible rfl
    rotate_left
    ·simp only [Act.put,List.setIfInBounds_toArray,List.set_cons_zero,List.set_cons_succ,i64_w,i32_w]
     rfl
    refine take_ (i:=10) (N:=some 141) (v:=?_) (a':=?_) #[true,true,true,true,true,true,true,false,false,true,true,false,false,false,false,false,false] rfl rfl (take_ofW HT_.out HW_.out (by kernel_rfl)) (fun _ _ _ h=>h) (Or.inl ⟨by rfl,?_⟩) hHeld ?_ ?_
    rotate_left
    ·rintro w' ⟨s0,s1⟩
     go_simp
     with_reducible rfl
    rotate_left
    ·simp only [Act.put,List.setIfInBounds_toArray,List.set_cons_zero,List.set_cons_succ,i64_w,i32_w]
     rfl
    refine pure_ (i:=11) (N:=some 142) (v:=?_) (a':=?_) #[true,true,true,true,true,true,true,false,false,true,true,true,false,false,false,false,false] rfl rfl (any_of HT_.out (by kernel_rfl)) (fun _ _ _ h=>h) (Or.inl ⟨by rfl,?_⟩) ?_ ?_
    rotate_left
    ·intro w'
     go_simp
     with_reducible rfl
    rotate_left
    ·simp only [Act.put,List.setIfInBounds_toArray,List.set_cons_zero,List.set_cons_succ,i64_w,i32_w]
     rfl
    refine one_ (i:=7) (N:=some 138) #[true,true,true,true,true,true,true,true,false,true,true,true,false,false,false,false,false] rfl rfl (one_of HT_.out (by kernel_rfl)) (by decide) (fun K hK=>?_)
    refine value_ (w1:=?_) (v:=?_) (by rfl) rfl ?_ ?_
    rotate_left 2
    ·go_simp
     constructor
     ·rfl
     ·rfl
    refine hK.out _ _ (⟨cellO (cellD y) _,cellO (cellD q) _⟩) (fun hHeld=>?_)
    clear hK K
    refine norm_ (a':=?_) ?_ ?_
    rotate_left
    ·show Act.put _ (some 138) _ = _
     simp only [Act.put,List.setIfInBounds_toArray,List.set_cons_zero,List.set_cons_succ,i64_w,i32_w]
     rfl
    refine one_ (i:=8) (N:=some 139) (bl 12 17) rfl rfl (one_of HT_.out (by kernel_rfl)) (by decide) (fun K hK=>?_)
    refine app_at f38 wr.drew w.heap.size (by rfl) (.tmp 136) (.tmp 138) 22 38 (.agg #[(.string ⟨#[]⟩),(.slice none 0 0),(.int .i64 0),(.slice none 0 0),(.slice none 0 0)]) 96 (by rfl) Try.underlying22 info38 (by rfl) (by decide) (by decide) (.slice AF ps.length cF) (tt ps) m38 [.string ⟨#[109,97,114,107]⟩,.slice none 0 0,.int .i64 0,.slice none 0 0,.slice none 0 0] (by rfl) (by rfl) (by rfl) HM.out (by decide) HRV.out HLd.out.below.size HBD.out ?_
    intro v1 w4 hR4 hg4
    obtain ⟨inner,ho⟩:=Kd.R_own hR4
    rw [HLEN.out] at ho
    obtain ⟨gF,c6,e7,_⟩:=own_form ho HP.out
    clear ho
    subst e7
    have hq4:=grown_ty hg4 (Kd.R_typed HRV.out) HLd.out.lb HDL.out
    have hf4:=grown_ty hg4 (Kd.R_typed HRV.out) HLd.out.sb HDS.out
    have z:=(S2_blk hf4).1
    have c43:=(S2_blk hq4).1
    have f43:=blk_frozen hq4 0
    have hcut:=cut_to (P:=Try.prog) 22 38 .i64 Try.underlying22 HI38.out (some ⟨gF,0,none⟩) (ps.length + 1) c6 (ps.length:Int) HP0.out HP1.out (Kd.R_reads' hR4).2.1
    have HR4:=Lib.hid hR4
    have HG4:=Lib.hid hg4
    clear hR4 hg4 hq4 hf4
    refine hK.out _ _ (⟨z,c43⟩) (fun hHeld=>?_)
    clear hK K
    refine norm_ (a':=?_) ?_ ?_
    rotate_left
    ·show Act.put _ (some 139) _ = _
     simp only [Act.put,List.setIfInBounds_toArray,List.set_cons_zero,List.set_cons_succ,i64_w,i32_w]
     rfl
    refine pure_ (i:=12) (N:=some 143) (v:=?_) (a':=?_) (bl 13 17) rfl rfl (any_of HT_.out (by kernel_rfl)) (fun _ _ _ h=>h) (Or.inl ⟨by rfl,?_⟩) ?_ ?_
    rotate_left
    ·intro w'
     go_simp
     with_reducible rfl
    rotate_left
    ·simp only [Act.put,List.setIfInBounds_toArray,List.set_cons_zero,List.set_cons_succ,i64_w,i32_w]
     rfl
    refine pure_ (i:=13) (N:=some 144) (v:=?_) (a':=?_) (bl 14 17) rfl rfl (any_of HT_.out (by kernel_rfl)) (fun _ _ _ h=>h) (Or.inl ⟨by rfl,?_⟩) ?_ ?_
    rotate_left
    ·intro w'
     go_simp
     with_reducible rfl
    rotate_left
    ·simp only [Act.put,List.setIfInBounds_toArray,List.set_cons_zero,List.set_cons_succ,i64_w,i32_w]
     rfl
    refine pure_ (i:=14) (N:=some 145) (v:=?_) (a':=?_) (bl 15 17) rfl rfl (any_of HT_.out (by kernel_rfl)) (fun _ _ _ h=>h) (Or.inl ⟨by rfl,?_⟩) ?_ ?_
    rotate_left
    ·intro w'
     go_simp
     with_reducible rfl
    rotate_left
    ·simp only [Act.put,List.setIfInBounds_toArray,List.set_cons_zero,List.set_cons_succ,i64_w,i32_w]
     rfl
    refine pure_ (i:=15) (N:=some 146) (v:=?_) (a':=?_) (bl 16 17) rfl rfl (any_of HT_.out (by kernel_rfl)) (fun _ _ _ h=>h) (Or.inl ⟨by rfl,?_⟩) ?_ ?_
    rotate_left
    ·intro w'
     go_simp
     with_reducible rfl
    rotate_left
    ·simp only [Act.put,List.setIfInBounds_toArray,List.set_cons_zero,List.set_cons_succ,i64_w,i32_w]
     rfl
    refine last_ (i:=16) (N:=none) (bl 17 17) rfl rfl (one_of HT_.out (by kernel_rfl)) (by decide) (fun K hK=>?_)
    refine skip_ (w1:=?_) (by rfl) rfl ?_ ?_
    rotate_left
    ·go_simp
     rfl
    refine hK.out _ _ ?_
    clear hK K
    refine done_ (done_of HT_.out (by kernel_rfl)) ?_
    all_goals
     go_wp2_with (fail)
     go_meet
    all_goals
     refine ⟨gF,c6,Lib.hid ?_⟩
     exact HLd.out.mark HR4.out HG4.out
   case rest=>
    obtain ⟨gF,c6,HX⟩:=hcut
    clear HLEN HBD HM HRV HLd q q1 y HNE HDL HDS HI38 HP HP0 HP1 s0 HLN
    have s1:=(S2_blk HX.out.sb).2
    have l1:=(S2_blk HX.out.lb).2
    have fz:=blk_frozen HX.out.lb 1
    go_wp2_with (fail)
    go_ret
    exact ⟨gL,gF,c6,rfl,Lib.hid HX.out.main⟩
end Go.Proofs.Ytgbeliajhccndaa
