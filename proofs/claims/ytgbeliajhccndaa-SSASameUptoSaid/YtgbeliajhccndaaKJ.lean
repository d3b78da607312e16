/- Lemmas of this claim (SE,SF,SG,SH). -/
import Derived.Test.YtgbeliajhccndaaKH
import Derived.Test.YtgbeliajhccndaaKI
import Derived.Maps.Own
import Derived.Maps.OwnOps
import Derived.Maps.Views
section
set_option linter.unusedVariables false
set_option linter.unusedSimpArgs false
namespace Go.Proofs.Ytgbeliajhccndaa
open Go.RowKit Go.Proofs.YtgbeliajhccndaaW.PrintWords Go.Proofs.YtgbeliajhccndaaW.PrintLast Go.Proofs.YtgbeliajhccndaaW.PrintMore PP
def oneName (s:ByteArray) (r:List Lex.Tok × Int × Int):Bool:=
 match r.1 with
 | [x]=>r.2.2 == 0 && x.kind == 1 && x.name.toList == s.toList
 | _=>false
def nameB (s:ByteArray):Bool:=oneName s (Lex.lexAll (bytesOf s))
theorem bytes_range (s:ByteArray):Lex.byteRange (bytesOf s):=by
 intro i
 rw [rd_bytesOf]
 exact bt_range s i
theorem tok_at {w:World} {A:Option Addr} {x:Lex.Tok} (h:Lex.kTok.C w A [x].length [x]):∃ ad,A = some ad ∧ w.cell? ad = some (.int .i64 x.kind) ∧ w.cell? ⟨ad.block,ad.off + 3,none⟩ = some (.string x.name):=by
 obtain ⟨ad,c,e,_,hK,hc0⟩:=Kd.C_get h Lex.Tok.nil 0 (by omega) (by simp)
 have hc:∀ j u,c[j]? = some u → w.cell? (ad.add (0 + j)) = some u:=by intro j u hj;have:=hc0 j u hj;simpa using this
 have hx:Lex.kTok.K w x c:=hK
 obtain rfl:=Lex.kTok_open hx
 have e0:ad.add 0 = ad:=by unfold Addr.add;simp
 exact ⟨ad,e,by have:=hc 0 _ rfl;simpa [e0] using this,by have:=hc 3 _ rfl;rwa [add_field _ _ 3 (by omega),e0] at this⟩
set_option maxHeartbeats 2000000 in
theorem isName_any (s:ByteArray) (w:World) (hs:s.size ≤ 3000000000000) :
 Calls Try.prog 35 #[.string s] w fun e w'=>∃ b,e = .returned (.bool b) ∧ Hid (nameB s = b) ∧ Below w.heap.size w w':=by
 have kb:=fun W=>print_bytes (P:=Try.prog) 9 52 5 Try.underlying9 Try.underlying52 Try.underlying5 s W
 obtain ⟨out,place,err,hL⟩:∃ out place err,Lex.lexAll (bytesOf s) = (out,place,err):=⟨_,_,_,rfl⟩
 have HN:Hid (nameB s = oneName s (out,place,err)):=Lib.hid (by unfold nameB;rw [hL])
 have HL:=Lib.hid hL
 clear hL
 have HR:Hid (ReadsInt (Lib.bytesWorld w 5 s) .u8 (some ⟨w.heap.size,0,none⟩) s.size (bytesOf s)):=Lib.hid (bytes_reads w 5 s (by omega))
 have HB:Hid (Below w.heap.size w (Lib.bytesWorld w 5 s)):=Lib.hid (bytes_below (Below.refl _ _) (Nat.le_refl _) 5 s)
 have hcap:s.size ≤ grownCap w s.size 0 5:=grownCap_ge _ _ _ _
 have hst:Hid (w.heap.size ≤ (Lib.bytesWorld w 5 s).heap.size):=Lib.hid HB.out.size
 match out,HN,HL with
 | [],HN,HL=>
   go_enter Try.func35,Try.ntmps35
   go_wp2_with (go_at_call 59;with_reducible refine Calls.mono (Lex.tokens_any _ _ _ (bytesOf s) _ [] place err hcap ?_ (bytes_range s) (by omega) HL.out) ?_;exact HR.out;rintro e w1 ⟨v,rfl,hR,hb⟩;obtain ⟨A1,c1,rfl,hc1,hC1⟩:=Kd.R_reads hR;have HB1:=Lib.hid (below_then HB.out HB.out.size hb);clear hR hb hC1)
   all_goals
    go_ret
    exact ⟨_,rfl,HN,HB1.out⟩
 | x :: y :: r,HN,HL=>
   go_enter Try.func35,Try.ntmps35
   go_wp2_with (go_at_call 59;with_reducible refine Calls.mono (Lex.tokens_any _ _ _ (bytesOf s) _ (x :: y :: r) place err hcap ?_ (bytes_range s) (by omega) HL.out) ?_;exact HR.out;rintro e w1 ⟨v,rfl,hR,hb⟩;obtain ⟨A1,c1,rfl,hc1,hC1⟩:=Kd.R_reads hR;have HB1:=Lib.hid (below_then HB.out HB.out.size hb);clear hR hb hC1)
   all_goals
    go_ret
    refine ⟨_,rfl,?_,HB1.out⟩
    rw [HN.out]
    refine Lib.hid ?_
    first | rfl | (symm;simp;omega)
 | [x],HN,HL=>
   go_enter Try.func35,Try.ntmps35
   go_wp2_with (go_at_call 59;with_reducible refine Calls.mono (Lex.tokens_any _ _ _ (bytesOf s) _ [x] place err hcap ?_ (bytes_range s) (by omega) HL.out) ?_;exact HR.out;rintro e w1 ⟨v,rfl,hR,hb⟩;obtain ⟨A1,c1,rfl,hc1,hC1⟩:=Kd.R_reads hR;have HB1:=Lib.hid (below_then HB.out HB.out.size hb);obtain ⟨ad,rfl,h0,h3⟩:=tok_at hC1;clear hR hb hC1)
   all_goals
    go_ret
    refine ⟨_,rfl,?_,HB1.out⟩
    rw [HN.out]
    refine Lib.hid ?_
    unfold oneName
    dsimp only
    first | rfl | (simp [*];done)
end Go.Proofs.Ytgbeliajhccndaa
end
section
set_option linter.unusedVariables false
set_option linter.unusedSimpArgs false
namespace Go.Proofs.Ytgbeliajhccndaa
open Go.RowKit Go.WideMaps Go.Maps Go.Proofs.YtgbeliajhccndaaW.PrintWords Go.Proofs.YtgbeliajhccndaaW.PrintLast Go.Proofs.YtgbeliajhccndaaW.PrintMore PP
theorem zero3 (w:World):(zeroValue 3).run Try.prog w = .ok (.int .i64 0) w:=by kernel_rfl
theorem lawS:Keyed Try.prog 9:=string_keyed Try.underlying9
theorem lawI:Keyed Try.prog 3:=int_keyed Try.underlying3
theorem wf64 {a:Int} (h0:-9223372036854775808 ≤ a) (h1:a ≤ 9223372036854775807):(Lit.int .i64 a).wf = true:=WalkArith.wf_i64 ⟨h0,h1⟩
def updS (m:ByteArray → Int) (s:ByteArray) (v:Int) (x:ByteArray):Int:=if x = s then v else m x
def updI (m:Int → Int) (s:Int) (v:Int) (x:Int):Int:=if x = s then v else m x
def MapS (w:World) (B n:Nat) (m:ByteArray → Int):Prop:=∃ D:DataW Unit,w.ownsMap Try.prog 9 (plainElem Try.prog 3) B n D ∧ IsMap D ∧ ∀ s,s.size ≤ maxLen → D.atKey (.string s.data.toList) (.lit (.int .i64 0)) = .lit (.int .i64 (m s))
def MapI (w:World) (B n:Nat) (m:Int → Int):Prop:=∃ D:DataW Unit,w.ownsMap Try.prog 3 (plainElem Try.prog 3) B n D ∧ IsMap D ∧ ∀ s,(Lit.int .i64 s).wf = true → D.atKey (.int .i64 s) (.lit (.int .i64 0)) = .lit (.int .i64 (m s))
theorem lit_inj {a b:Int} (h:(DataW.lit (.int .i64 a):DataW Unit) = .lit (.int .i64 b)):a = b:=by
 have:=DataW.lit.inj h
 exact (Lit.int.inj this).2
section
variable {w w':World} {B n:Nat} {m:ByteArray → Int} {mi:Int → Int}
theorem MapS.new (w:World):MapS (w.alloc (.map #[] 0)) w.heap.size 0 (fun _=>0):=⟨.map [],World.ownsMap_made _ _ _ _,isMap_empty,fun _ _=>rfl⟩
theorem MapI.new (w:World):MapI (w.alloc (.map #[] 0)) w.heap.size 0 (fun _=>0):=⟨.map [],World.ownsMap_made _ _ _ _,isMap_empty,fun _ _=>rfl⟩
theorem MapS.kept {row:Option Nat} (h:MapS w B n m) (hg:w.grownBy w' row) (hne:some B ≠ row):MapS w' B n m:=by
 obtain ⟨D,h1,h2,h3⟩:=h;exact ⟨D,h1.kept hg hne,h2,h3⟩
theorem MapI.kept {row:Option Nat} (h:MapI w B n mi) (hg:w.grownBy w' row) (hne:some B ≠ row):MapI w' B n mi:=by
 obtain ⟨D,h1,h2,h3⟩:=h;exact ⟨D,h1.kept hg hne,h2,h3⟩
theorem MapS.below (h:MapS w B n m) (hb:Below w.heap.size w w'):MapS w' B n m:=h.kept (grown_of_below hb none) (by simp)
theorem MapI.below (h:MapI w B n mi) (hb:Below w.heap.size w w'):MapI w' B n mi:=h.kept (grown_of_below hb none) (by simp)
theorem MapS.lt (h:MapS w B n m):B < w.heap.size:=by obtain ⟨D,h1,_⟩:=h;exact h1.lt
theorem MapI.lt (h:MapI w B n mi):B < w.heap.size:=by obtain ⟨D,h1,_⟩:=h;exact h1.lt
theorem MapS.ext {m':ByteArray → Int} (h:MapS w B n m) (he:∀ s,m s = m' s):MapS w B n m':=by
 obtain rfl:m = m':=funext he
 exact h
theorem MapI.ext {m':Int → Int} (h:MapI w B n mi) (he:∀ s,mi s = m' s):MapI w B n m':=by
 obtain rfl:mi = m':=funext he
 exact h
theorem MapS.look (h:MapS w B n m) {s:ByteArray} (hs:s.size ≤ maxLen):(Instr.lookup 70 (.map (some B)) (.string s) false).run Try.prog w = .ok (.int .i64 (m s)) w:=by
 obtain ⟨D,h1,h2,h3⟩:=h
 have hkey:keyOf Try.prog 9 (.string s) = some (.string s.data.toList):=keyOf_string_mk Try.underlying9 hs
 have hz:=zero3 w
 obtain ⟨c,hrun,hat,_⟩:=World.ownsMap.lookup_int (t:=70) (e:=3) (q:=.i64) h1 lawS Try.underlying70 Try.underlying3 hz hkey
 rw [h3 s hs] at hat
 have hat:m s = c:=lit_inj hat
 rw [hat];exact hrun
theorem MapI.look (h:MapI w B n mi) {s:Int} (hs:(Lit.int .i64 s).wf = true):(Instr.lookup 114 (.map (some B)) (.int .i64 s) false).run Try.prog w = .ok (.int .i64 (mi s)) w:=by
 obtain ⟨D,h1,h2,h3⟩:=h
 have hkey:keyOf Try.prog 3 (.int .i64 s) = some (.int .i64 s):=keyOf_int_mk Try.underlying3 hs
 have hz:=zero3 w
 obtain ⟨c,hrun,hat,_⟩:=World.ownsMap.lookup_int (t:=114) (e:=3) (q:=.i64) h1 lawI Try.underlying114 Try.underlying3 hz hkey
 rw [h3 s hs] at hat
 have hat:mi s = c:=lit_inj hat
 rw [hat];exact hrun
theorem toList_inj {a b:ByteArray} (h:a.data.toList = b.data.toList):a = b:=by
 cases a;cases b;congr;exact Array.toList_inj.1 h
theorem MapS.put {o:Oper} {rest:List Oper} {ops:Array Oper} {a:Act} {Q:Exit → Act → World → Prop} (hg:o.guard = none) (x1 x2 x3:Operand) (hop:o.op = Op.mapUpdate 70 x1 x2 x3)
 (h:MapS w B n m) (hn:n < maxLen) (s:ByteArray) (v:Int) (hm:a.eval x1 = .map (some B)) (hx:a.eval x2 = .string s) (hv:a.eval x3 = .int .i64 v) (hs:s.size ≤ maxLen) (hw:(Lit.int .i64 v).wf = true)
 (hK:∀ w',MapS w' B (n + 1) (updS m s v) → w.grownBy w' (some B) → wpList Try.prog ops Q rest (a.put o.dst undef) w'):wpList Try.prog ops Q (o :: rest) a w:=by
 obtain ⟨D,h1,h2,h3⟩:=h
 refine wpList_mapUpdate_own w hg x1 x2 x3 70 hop 9 3 lawS Try.underlying70 _ B n D hm h1 hn (.string s) (.int .i64 v) _ hx hv (keyOf_string_mk Try.underlying9 hs) (.lit (.int .i64 v)) [] (plainElem_int Try.underlying3 hw) ?_
 intro w' ho hg'
 refine hK w' ⟨_,ho,h2.put _ _,fun t ht=>?_⟩ hg'
 unfold updS
 by_cases e:t = s
 ·rw [if_pos e,e];exact atKey_put_same (k:=.string s.data.toList) h2 trivial _ _
 ·rw [if_neg e,atKey_put_other (fun k=>e (toList_inj (by injection k)))];exact h3 t ht
theorem MapI.put {o:Oper} {rest:List Oper} {ops:Array Oper} {a:Act} {Q:Exit → Act → World → Prop} (hg:o.guard = none) (x1 x2 x3:Operand) (hop:o.op = Op.mapUpdate 114 x1 x2 x3)
 (h:MapI w B n mi) (hn:n < maxLen) (s:Int) (v:Int) (hm:a.eval x1 = .map (some B)) (hx:a.eval x2 = .int .i64 s) (hv:a.eval x3 = .int .i64 v) (hs:(Lit.int .i64 s).wf = true) (hw:(Lit.int .i64 v).wf = true)
 (hK:∀ w',MapI w' B (n + 1) (updI mi s v) → w.grownBy w' (some B) → wpList Try.prog ops Q rest (a.put o.dst undef) w'):wpList Try.prog ops Q (o :: rest) a w:=by
 obtain ⟨D,h1,h2,h3⟩:=h
 refine wpList_mapUpdate_own w hg x1 x2 x3 114 hop 3 3 lawI Try.underlying114 _ B n D hm h1 hn (.int .i64 s) (.int .i64 v) _ hx hv (keyOf_int_mk Try.underlying3 hs) (.lit (.int .i64 v)) [] (plainElem_int Try.underlying3 hw) ?_
 intro w' ho hg'
 refine hK w' ⟨_,ho,h2.put _ _,fun t ht=>?_⟩ hg'
 unfold updI
 by_cases e:t = s
 ·rw [if_pos e,e];exact atKey_put_same (k:=.int .i64 s) h2 trivial _ _
 ·rw [if_neg e,atKey_put_other (fun k=>e (by injection k))];exact h3 t ht
end
end Go.Proofs.Ytgbeliajhccndaa
end
section
set_option linter.unusedVariables false
set_option linter.unusedSimpArgs false
namespace Go.Proofs.Ytgbeliajhccndaa
open Go.RowKit Go.WideMaps Go.Maps Go.Proofs.YtgbeliajhccndaaW.PrintWords Go.Proofs.YtgbeliajhccndaaW.PrintLast Go.Proofs.YtgbeliajhccndaaW.PrintMore PP
def cntS (l:List S38) (s:ByteArray):Nat:=(l.filter fun g=>decide (g.f0 = s)).length
theorem cntS_le (l:List S38) (s:ByteArray):cntS l s ≤ l.length:=List.length_filter_le _ _
theorem cntS_snoc (l:List S38) (f:S38) (s:ByteArray):cntS (l ++ [f]) s = if s = f.f0 then cntS l s + 1 else cntS l s:=by
 unfold cntS
 by_cases h:s = f.f0
 ·subst h;simp
 ·have h':¬ f.f0 = s:=fun e=>h e.symm
  simp [h,h']
def rowB (fs:List S38) (i:Nat):Bool:=
 decide (cntS (fs.take i) (rd_T38 fs (i:Int)).f0 = 0) && (nameB (rd_T38 fs (i:Int)).f0 && funcB fs (rd_T38 fs (i:Int)))
def mainB (fs:List S38) (mn:Int):Bool:=decide (0 ≤ mn) && (decide (mn < (fs.length:Int)) && (((rd_T38 fs mn).f1.length:Int) == 0 && (rd_T38 fs mn).f2 == 0))
def formedB (fs:List S38) (mn:Int):Bool:=(List.range fs.length).all (rowB fs) && mainB fs mn
theorem formedB_row {fs:List S38} {mn:Int} (h:(List.range fs.length).all (rowB fs) = false):formedB fs mn = false:=by unfold formedB;rw [h];rfl
theorem formedB_main {fs:List S38} {mn:Int} (h:(List.range fs.length).all (rowB fs) = true):formedB fs mn = mainB fs mn:=by unfold formedB;rw [h];rfl
theorem FnAt.of {w:World} {A:Option Addr} {fs:List S38} (h:k38.C w A fs.length fs) (i:Int) (h0:0 ≤ i) (h1:i < (fs.length:Int)) :
 ∃ ad A1 c1 A3 c3 A4 c4,A = some ad ∧ FnAt w (ad.add (i.toNat * 5)) (rd_T38 fs i) A1 c1 A3 c3 A4 c4:=by
 obtain ⟨ad,A1,c1,A3,c3,A4,c4,e,q⟩:=at_T38 h i h0 h1
 exact ⟨ad,A1,c1,A3,c3,A4,c4,e,q⟩
theorem row_no1 {fs:List S38} {i:Nat} (h:¬ cntS (fs.take i) (rd_T38 fs (i:Int)).f0 = 0):rowB fs i = false:=by
 unfold rowB;rw [decide_eq_false h];rfl
theorem row_no2 {fs:List S38} {i:Nat} {b:Bool} (h:nameB (rd_T38 fs (i:Int)).f0 = b) (hb:b = false):rowB fs i = false:=by
 unfold rowB;rw [h,hb];simp
theorem row_no3 {fs:List S38} {i:Nat} {b:Bool} (h:funcB fs (rd_T38 fs (i:Int)) = b) (hb:b = false):rowB fs i = false:=by
 unfold rowB;rw [h,hb];simp
theorem row_ok {fs:List S38} {i:Nat} {b b':Bool} (h0:cntS (fs.take i) (rd_T38 fs (i:Int)).f0 = 0) (h:nameB (rd_T38 fs (i:Int)).f0 = b) (hb:b = true) (h':funcB fs (rd_T38 fs (i:Int)) = b') (hb':b' = true):rowB fs i = true:=by
 unfold rowB;rw [decide_eq_true h0,h,hb,h',hb'];rfl
set_option maxHeartbeats 8000000 in
theorem formed_any0 (fs:List S38) (mn:Int) (A:Option Addr) (c:Nat) (w:World) (hfs:k38.C w A fs.length fs) (hc:fs.length ≤ c) (hnm:∀ f ∈ fs,f.f0.size ≤ 3000000000000) :
 Calls Try.prog 20 #[.agg #[.slice A fs.length c,.int .i64 mn]] w fun e w'=>e = .returned (.bool (formedB fs mn)) ∧ Below w.heap.size w w':=by
 have hmm:=@run_makeMap Try.prog
 have hm:=hfs.2.1
 have HS:=Lib.hid hfs
 have HC:=Lib.hid hc
 have HNM:=Lib.hid hnm
 clear hfs hc hnm
 go_enter Try.func20,Try.ntmps20
 go_wp2
 go_loopg [11] (fs.length) (fun k v wr=>∃ i:Nat,i ≤ fs.length ∧ v = .int .i64 i ∧ Hid (i + k = fs.length) ∧ Hid ((List.range fs.length).all (rowB fs) = ((List.range fs.length).drop i).all (rowB fs)) ∧ Hid (Below w.heap.size w wr) ∧ Hid (wr.heap[w.heap.size]? = some (.cells #[.slice A fs.length c,.int .i64 mn] 24 (0,0))) ∧ Hid (MapS wr (w.heap.size + 1) i (fun s=>(cntS (fs.take i) s:Int))))
 case atStart=>
  refine ⟨0,by omega,rfl,Lib.hid (by omega),Lib.hid (by simp),Lib.hid (below_alloc (below_alloc (Below.refl _ _) _) _),Lib.hid (blkB (below_alloc (Below.refl _ _) _) (blk_new w _)),Lib.hid ?_⟩
  have h:=MapS.new (w.alloc (.cells #[.slice A fs.length c,.int .i64 mn] 24))
  rw [World.size_alloc] at h
  exact h.ext (fun s=>by simp [cntS])
 case round=>
  clear hmm
  obtain ⟨i,hi,rfl,HI,HP,HB,HK,HM⟩:=hrel
  have s0:wr.cell? ⟨w.heap.size,0,none⟩ = some (.slice A fs.length c):=(blk_cell HK.out 0).trans rfl
  have s1:wr.cell? ⟨w.heap.size,1,none⟩ = some (.int .i64 mn):=(blk_cell HK.out 1).trans rfl
  by_cases hlt:i < fs.length
  ·obtain ⟨ad,A1,c1,A3,c3,A4,c4,hA,hF⟩:=FnAt.of HS.out (i:Int) (by omega) (by omega)
   obtain rfl:=hA
   rw [Int.toNat_natCast] at hF
   have HF:=Lib.hid hF
   clear hF
   have f0:=cellB HB.out HF.out.c0
   have hsz:(rd_T38 fs (i:Int)).f0.size ≤ 3000000000000:=HNM.out _ (by unfold rd_T38;exact mem_getD _ (by simpa using hlt))
   have hms:(rd_T38 fs (i:Int)).f0.size ≤ maxLen:=by unfold maxLen;omega
   have HST:=Lib.hid (all_stop (p:=rowB fs) (d:=0) (by simpa using hlt) HP.out)
   have HNX:=Lib.hid (all_next (p:=rowB fs) (d:=0) (by simpa using hlt) HP.out)
   have e0:(List.range fs.length).getD i 0 = i:=by simp [List.getD_eq_getElem?_getD,hlt]
   rw [e0] at HST HNX
   clear e0
   have hcn:cntS (fs.take i) (rd_T38 fs (i:Int)).f0 ≤ 9223372036854775806:=by have:=cntS_le (fs.take i) (rd_T38 fs (i:Int)).f0;simp at this;omega
   have hL:=HM.out.look hms
   have hsnoc:∀ s,(cntS (fs.take (i + 1)) s:Int) = updS (fun s=>(cntS (fs.take i) s:Int)) (rd_T38 fs (i:Int)).f0 ((cntS (fs.take i) (rd_T38 fs (i:Int)).f0:Int) + 1) s:=by
    intro s
    have e:fs.take (i + 1) = fs.take i ++ [rd_T38 fs (i:Int)]:=by rw [List.take_succ_eq_append_getElem hlt];simp [rd_T38,List.getD_eq_getElem?_getD,hlt]
    rw [e,cntS_snoc]
    unfold updS
    by_cases h:s = (rd_T38 fs (i:Int)).f0
    ·rw [if_pos h,if_pos h,h];simp
    ·rw [if_neg h,if_neg h]
   have HSN:=Lib.hid hsnoc
   clear hsnoc
   have N1:=@row_no1 fs i
   have N2:=@row_no2 fs i
   have N3:=@row_no3 fs i
   have NO:=@row_ok fs i
   have NN:=Lib.hid (And.intro N1 (And.intro @N2 (And.intro @N3 @NO)))
   clear N1 N2 N3 NO
   generalize rd_T38 fs (i:Int) = x at *
   obtain ⟨cn,hcnn⟩:∃ cn,cn = cntS (fs.take i) x.f0:=⟨_,rfl⟩
   rw [← hcnn] at hL hcn HSN NN
   have HCN:=Lib.hid hcnn
   clear hcnn
   have HSZ:=Lib.hid hsz
   have HMS:=Lib.hid hms
   clear hsz hms hcn
   have hci:cn ≤ i:=by have:=cntS_le (fs.take i) x.f0;simp at this;rw [HCN.out];omega
   by_cases hz:cn = 0
   ·subst hz
    go_wp2_with (first | (at_mapUpdate;refine MapS.put rfl _ _ _ rfl HM.out (by unfold maxLen;omega) x.f0 1 rfl rfl rfl HMS.out (wf64 (by omega) (by omega)) ?_;intro w2 hM2 hg2;have HM2:=Lib.hid (hM2.ext (fun s=>(HSN.out s).symm));have HB2:=Lib.hid (HB.out.grown hg2 HB.out.size (fun k hk=>by cases hk;omega));have BK2:=Lib.hid ((hg2.block _ (blk_lt HK.out) (by simp)).trans HK.out);have HL2:(Instr.lookup 70 (.map (some (w.heap.size + 1))) (.string x.f0) false).run Try.prog w2 = .ok (.int .i64 1) w2:=(hM2.look HMS.out).trans (by simp [updS]);clear hM2 hg2 hL;have t0:w2.cell? ⟨w.heap.size,0,none⟩ = some (.slice (some ad) fs.length c):=(blk_cell BK2.out 0).trans rfl;have t1:w2.cell? ⟨w.heap.size,1,none⟩ = some (.int .i64 mn):=(blk_cell BK2.out 1).trans rfl;have f1:=cellB HB2.out HF.out.c0;clear f0 s0 s1) | (go_at_call 35;with_reducible refine Calls.mono (isName_any x.f0 _ HSZ.out) ?_;rintro e w3 ⟨b3,rfl,HA3,hb⟩;have HB3:=Lib.hid (below_then HB2.out HB2.out.size hb);have HM3:=Lib.hid (HM2.out.below hb);have BK3:=Lib.hid (blkB hb BK2.out);have F3:=Lib.hid (HF.out.below HB3.out);clear hb t0 t1 f1 HL2;have t0:w3.cell? ⟨w.heap.size,0,none⟩ = some (.slice (some ad) fs.length c):=(blk_cell BK3.out 0).trans rfl;have t1:w3.cell? ⟨w.heap.size,1,none⟩ = some (.int .i64 mn):=(blk_cell BK3.out 1).trans rfl) | (go_at_call 36;with_reducible refine Calls.mono (formedFunc_any fs mn (some ad) c (ad.add (i * 5)) x A1 c1 A3 c3 A4 c4 _ ?_ HC.out ?_) ?_;exact Kd.C_below HS.out HB3.out;exact F3.out;rintro e w4 ⟨rfl,hb⟩;obtain ⟨b4,HA4⟩:∃ b,Hid (funcB fs x = b):=⟨_,Lib.hid rfl⟩;rw [HA4.out];have HB4:=Lib.hid (below_then HB3.out HB3.out.size hb);have HM4:=Lib.hid (HM3.out.below hb);have BK4:=Lib.hid (blkB hb BK3.out);clear hb) | (go_at_call 36;refine stop_intro ?_))
    all_goals first
     | (go_ret
        refine ⟨ret_bool (formedB_row (HST.out ?_)).symm,by first | exact HB4.out | exact HB3.out⟩
        first | exact NN.out.2.1 HA3.out (by simpa using ‹¬b3 = true›) | exact NN.out.2.2.1 HA4.out (by simpa using ‹(!b4) = true›))
     | (go_roundg (gk - 1)
        case measure=>have:=HI.out;omega
        case rel=>exact ⟨i + 1,by omega,by go_num,Lib.hid (by have:=HI.out;omega),Lib.hid (HNX.out (NN.out.2.2.2 (by first | trivial | rfl) HA3.out ‹b3 = true› HA4.out (by simpa using ‹(!b4) = false›))),HB4,BK4,HM4⟩)
   ·obtain ⟨v,hv⟩:∃ v:Int,v = (cn:Int):=⟨_,rfl⟩
    rw [← hv] at hL
    have hv1:1 ≤ v:=by omega
    have hv2:v < (fs.length:Int):=by omega
    have NZ:=Lib.hid (NN.out.1 hz)
    clear hz hci hv HSN HCN HNX NN
    go_wp2_with (first | (at_mapUpdate;refine MapS.put rfl _ _ _ rfl HM.out (by unfold maxLen;omega) x.f0 (v + 1) rfl rfl rfl HMS.out (wf64 (by omega) (by omega)) ?_;intro w2 hM2 hg2;have HB2:=Lib.hid (HB.out.grown hg2 HB.out.size (fun k hk=>by cases hk;omega));have HL2:(Instr.lookup 70 (.map (some (w.heap.size + 1))) (.string x.f0) false).run Try.prog w2 = .ok (.int .i64 (v + 1)) w2:=(hM2.look HMS.out).trans (by simp [updS]);have hu:decide (v + 1 > 1) = true:=decide_eq_true (by omega);have hu2:decide (1 < v + 1) = true:=decide_eq_true (by omega);generalize v + 1 = u at HL2 hu hu2;have f1:=cellB HB2.out HF.out.c0;clear f0 s0 s1 hM2 hg2 hL) | (go_at_call 35;refine stop_intro ?_))
    go_ret
    exact ⟨ret_bool (formedB_row (HST.out NZ.out)).symm,HB2.out⟩
  ·have HA:Hid ((List.range fs.length).all (rowB fs) = true):=Lib.hid (by rw [HP.out,List.drop_eq_nil_of_le (by simp;omega)];rfl)
   have HFM:=Lib.hid (formedB_main (mn:=mn) HA.out)
   clear HP HI HM
   by_cases h0:0 ≤ mn
   ·by_cases h1:mn < (fs.length:Int)
    ·obtain ⟨ad,A1,c1,A3,c3,A4,c4,hA,hF⟩:=FnAt.of HS.out mn h0 h1
     obtain rfl:=hA
     have HF:=Lib.hid (hF.below HB.out)
     have f0:=HF.out.c0
     have f1:=HF.out.c1
     have f2:=HF.out.c2
     have f3:=HF.out.c3
     have f4:=HF.out.c4
     clear hF
     have HM2:Hid (mainB fs mn = (((rd_T38 fs mn).f1.length:Int) == 0 && (rd_T38 fs mn).f2 == 0)):=Lib.hid (by unfold mainB;rw [decide_eq_true h0,decide_eq_true h1];rfl)
     generalize rd_T38 fs mn = x at *
     go_wp2
     all_goals
      go_ret
      refine ⟨ret_bool ?_,below_alloc HB.out _⟩
      rw [HFM.out,HM2.out]
      simp [*]
    ·go_wp2
     go_ret
     refine ⟨ret_bool ?_,HB.out⟩
     rw [HFM.out];unfold mainB;rw [decide_eq_false (by omega:¬ mn < (fs.length:Int))];simp
   ·go_wp2
    go_ret
    refine ⟨ret_bool ?_,HB.out⟩
    rw [HFM.out];unfold mainB;rw [decide_eq_false (by omega:¬ 0 ≤ mn)];rfl
theorem formed_any (fs:List S38) (mn:Int) (A:Option Addr) (c:Nat) (w:World) (hfs:k38.C w A fs.length fs) (hc:fs.length ≤ c) (hnm:∀ f ∈ fs,f.f0.size ≤ 3000000000000) :
 Calls Try.prog 20 #[.agg #[.slice A fs.length c,.int .i64 mn]] w fun e w'=>∃ b,e = .returned (.bool b) ∧ Hid (formedB fs mn = b) ∧ Below w.heap.size w w':=
 (formed_any0 fs mn A c w hfs hc hnm).mono (fun e w' h=>⟨_,h.1,Lib.hid rfl,h.2⟩)
end Go.Proofs.Ytgbeliajhccndaa
end
section
set_option linter.unusedVariables false
set_option linter.unusedSimpArgs false
namespace Go.Proofs.Ytgbeliajhccndaa
open Go.RowKit Go.Proofs.YtgbeliajhccndaaW.PrintWords Go.Proofs.YtgbeliajhccndaaW.PrintLast Go.Proofs.YtgbeliajhccndaaW.PrintMore PP
structure Ck where
 fs:List S38
 mn:Int
 A:Option Addr
 c:Nat
 p:Addr
 f:S38
 A1:Option Addr
 c1:Nat
 A3:Option Addr
 c3:Nat
 A4:Option Addr
 c4:Nat
structure CkW (w:World) (g:Nat) (d:Ck) (v3 v4 v5 v6:Value):Prop where
 at_:FnAt w d.p d.f d.A1 d.c1 d.A3 d.c3 d.A4 d.c4
 fs_:k38.C w d.A d.fs.length d.fs
 hc:d.fs.length ≤ d.c
 bk:w.heap[g]? = some (.cells #[.slice d.A d.fs.length d.c,.int .i64 d.mn,.pointer (some d.p),v3,v4,v5,v6] 58 (0,0))
section
variable {w W:World} {g:Nat} {d:Ck} {v3 v4 v5 v6:Value}
theorem CkW.below (h:CkW w g d v3 v4 v5 v6) (hb:Below w.heap.size w W):CkW W g d v3 v4 v5 v6:=⟨h.at_.below hb,Kd.C_below h.fs_ hb,h.hc,blkB hb h.bk⟩
theorem CkW.y0 (h:CkW w g d v3 v4 v5 v6):w.cell? ⟨g,0,none⟩ = some (.slice d.A d.fs.length d.c):=(blk_cell h.bk 0).trans rfl
theorem CkW.y1 (h:CkW w g d v3 v4 v5 v6):w.cell? ⟨g,1,none⟩ = some (.int .i64 d.mn):=(blk_cell h.bk 1).trans rfl
theorem CkW.y2 (h:CkW w g d v3 v4 v5 v6):w.cell? ⟨g,2,none⟩ = some (.pointer (some d.p)):=(blk_cell h.bk 2).trans rfl
theorem CkW.y3 (h:CkW w g d v3 v4 v5 v6):w.cell? ⟨g,3,none⟩ = some v3:=(blk_cell h.bk 3).trans rfl
theorem CkW.y4 (h:CkW w g d v3 v4 v5 v6):w.cell? ⟨g,4,none⟩ = some v4:=(blk_cell h.bk 4).trans rfl
theorem CkW.y5 (h:CkW w g d v3 v4 v5 v6):w.cell? ⟨g,5,none⟩ = some v5:=(blk_cell h.bk 5).trans rfl
theorem CkW.y6 (h:CkW w g d v3 v4 v5 v6):w.cell? ⟨g,6,none⟩ = some v6:=(blk_cell h.bk 6).trans rfl
end
def typeOf (f:S38) (x:Int):Int:=(rd_T42 f.f3 x).f1
theorem inB_iff {n:Nat} {x:Int} (h:inB n x = true):0 ≤ x ∧ x < (n:Int):=by simp [inB] at h;exact h
theorem val_at {w:World} {A:Option Addr} {f:S38} (h:k42.C w A f.f3.length f.f3) {x:Int} (hx:inB f.f3.length x = true) :
 ∃ ad A3 c3,A = some ad ∧ w.cell? (ad.add (x.toNat * 4)) = some (.int .i64 (opAt f x)) ∧ w.cell? ⟨(ad.add (x.toNat * 4)).block,(ad.add (x.toNat * 4)).off + 1,none⟩ = some (.int .i64 (typeOf f x)) ∧ w.cell? ⟨(ad.add (x.toNat * 4)).block,(ad.add (x.toNat * 4)).off + 2,none⟩ = some (.int .i64 (rd_T42 f.f3 x).f2) ∧ w.cell? ⟨(ad.add (x.toNat * 4)).block,(ad.add (x.toNat * 4)).off + 3,none⟩ = some (.slice A3 (rd_T42 f.f3 x).f3.length c3) ∧ (rd_T42 f.f3 x).f3.length ≤ c3 ∧ (Kd.int .i64).C w A3 (rd_T42 f.f3 x).f3.length (rd_T42 f.f3 x).f3:=
 at_T42 h x (inB_iff hx).1 (inB_iff hx).2
theorem int_at {w:World} {A:Option Addr} {l:List Int} (h:(Kd.int .i64).C w A l.length l) {i:Nat} (hi:i < l.length):∃ ad,A = some ad ∧ w.cell? (ad.add i) = some (.int .i64 (l.getD i 0)):=by
 obtain ⟨ad,hA,hc⟩:=Kd.at_int h (i:Int) (by omega) (by omega)
 have e0:rd l (i:Int) = l.getD i 0:=by simp [rd]
 rw [Int.toNat_natCast,e0] at hc
 exact ⟨ad,hA,hc⟩
def areB (f:S38):List Int → List Int → Bool
 | [],_=>true
 | _ :: _,[]=>false
 | a :: r,t :: s=>typeOf f a == t && areB f r s
theorem are_step {f:S38} {l s:List Int} {i:Nat} (hi:i < l.length) (hs:i < s.length):areB f (l.drop i) (s.drop i) = (typeOf f (l.getD i 0) == s.getD i 0 && areB f (l.drop (i + 1)) (s.drop (i + 1))):=by
 rw [List.drop_eq_getElem_cons hi,List.drop_eq_getElem_cons hs,areB]
 simp [List.getD_eq_getElem?_getD,hi,hs]
set_option maxHeartbeats 4000000 in
theorem are_any (g:Nat) (d:Ck) (v3 v4 v5 v6:Value) (o t im:Int) (B:Option Addr) (k:Nat) (l:List Int) (S:Option Addr) (ks:Nat) (s:List Int) (w:World) (h:CkW w g d v3 v4 v5 v6)
 (hr:(Kd.int .i64).C w B l.length l) (hk:l.length ≤ k) (hs:(Kd.int .i64).C w S s.length s) (hks:s.length ≤ ks) (hl:l.length ≤ s.length) (hin:l.all (inB d.f.f3.length) = true) :
 Calls Try.prog 68 #[.pointer (some ⟨g,0,none⟩),.agg #[.int .i64 o,.int .i64 t,.int .i64 im,.slice B l.length k],.slice S s.length ks] w fun e w'=>e = .returned (.bool (areB d.f l s)) ∧ Below w.heap.size w w':=by
 have hm:=hr.2.1
 have hm3:=h.at_.r3.2.1
 have HK:=Lib.hid h
 have HR:=Lib.hid hr
 have HS:=Lib.hid hs
 have HI:=Lib.hid hin
 clear h hr hs hin
 go_enter Try.func68,Try.ntmps68
 go_wp2
 go_loopg [7,8,12] (l.length) (fun k _ _ v wr=>∃ i:Nat,i ≤ l.length ∧ v = .int .i64 i ∧ Hid (i + k = l.length) ∧ Hid (areB d.f l s = areB d.f (l.drop i) (s.drop i)) ∧ Hid (Below w.heap.size w wr))
 case atStart=>exact ⟨0,by omega,rfl,Lib.hid (by omega),Lib.hid (by simp),Lib.hid (below_alloc (Below.refl _ _) _)⟩
 case round=>
  obtain ⟨i,hi,rfl,HG,HP,HB⟩:=hrel
  by_cases hlt:i < l.length
  ·obtain ⟨ad,hA,q0⟩:=int_at (Kd.C_below HR.out HB.out) hlt
   obtain ⟨ad2,hA2,q1⟩:=int_at (i:=i) (Kd.C_below HS.out HB.out) (by omega)
   have hx:=List.all_eq_true.1 HI.out _ (mem_getD 0 hlt)
   have HE:=Lib.hid (HP.out.trans (are_step hlt (by omega)))
   generalize l.getD i 0 = x at *
   generalize s.getD i 0 = y at *
   obtain ⟨ad3,B3,d3,hA3,_,z1,_,_,_,_⟩:=val_at (HK.out.below HB.out).at_.r3 hx
   obtain rfl:=hA
   obtain rfl:=hA2
   have y2:=(HK.out.below HB.out).y2
   have x3:=(HK.out.below HB.out).at_.c3
   rw [hA3] at x3
   obtain ⟨x0,x1⟩:=inB_iff hx
   clear hx hA3
   generalize typeOf d.f x = ty at *
   by_cases he:ty = y
   ·subst he
    go_wp2
    go_quiet (fail)
    go_wp2
    go_roundg (gk - 1)
    case measure=>have:=HG.out;omega
    case rel=>exact ⟨i + 1,by omega,by go_num,Lib.hid (by have:=HG.out;omega),Lib.hid (by have:=HE.out;simpa using this),Lib.hid (pw_below_drewN HB.out _)⟩
   ·have he1:(ty != y) = true:=by simpa using he
    have he2:(ty == y) = false:=by simpa using he
    go_wp2
    go_quiet (fail)
    go_wp2
    go_ret
    exact ⟨ret_bool (by have:=HE.out;rw [he2] at this;simpa using this.symm),pw_below_drewN HB.out _⟩
  ·go_wp2
   go_ret
   exact ⟨ret_bool (by rw [HP.out,List.drop_eq_nil_of_le (by omega),areB]),HB.out⟩
end Go.Proofs.Ytgbeliajhccndaa
end
