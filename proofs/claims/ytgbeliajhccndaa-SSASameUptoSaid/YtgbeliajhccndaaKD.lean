/- Lemmas of this claim (PP0). -/
import Derived.Test.YtgbeliajhccndaaProg
import Derived.Below
import Derived.Deep.Draws
import Derived.Deep.AppendLies
import Derived.Maps.AppendAt
import Derived.OwnWalk
import Derived.Laws.BytesArg
import Derived.Laws.MakeOwn
import Derived.Laws.OwnMore
import Derived.Deep.OwnRows
import Derived.Tactics
import Derived.Lib.ConvBytes
import Derived.Laws.Slices
import Derived.WalkKit
import Derived.KernelRfl
import Derived.RowKit3
import Derived.Deep.LoopGhost
import Derived.Deep.QuietTactic
import Derived.BigQuiet
import Derived.WideLaws
import Derived.Deep.DeepCutAuto
import Derived.Deep.CutBlock
import Derived.Deep.RegionHeld3
import Derived.Laws.Rows
import Derived.Lib.AppendStr
import Derived.ArgAppend
import Derived.Laws.IdiomCopy
import Derived.OrdersHeld
import Derived.Laws.BitsLemmas
import Derived.RowKit
import Derived.Test.YtgbeliajhccndaaKA
import Derived.Test.YtgbeliajhccndaaKB
import Derived.Test.YtgbeliajhccndaaKC
namespace Go.Proofs.Ytgbeliajhccndaa.PP
open Go.RowKit Go.Proofs.YtgbeliajhccndaaW.PrintWords Go.Proofs.YtgbeliajhccndaaW.PrintLast Go.Proofs.YtgbeliajhccndaaW.PrintMore
attribute [local go_sem] max2_int min2_int max_two min_two max_three min_three max_four min_four   
set_option linter.unusedVariables false
set_option linter.unusedSimpArgs false
def errW:Option Int → Value
 | none=>.nilIface
 | some c=>.iface 0 (.int .i64 c)
theorem errW_none:errW none = .nilIface:=rfl
theorem errW_some (c:Int):errW (some c) = .iface 0 (.int .i64 c):=rfl
theorem info3:(Try.prog.info? 3).map (fun i=>(i.zero,i.size,i.bytes)) = some (some (.int .i64 0),1,8):=by kernel_rfl
theorem info4:(Try.prog.info? 4).map (fun i=>(i.zero,i.size,i.bytes)) = some (some (.bool false),1,1):=by kernel_rfl
theorem info34:(Try.prog.info? 34).map (fun i=>(i.zero,i.size,i.bytes)) = some (some (.slice none 0 0),1,24):=by kernel_rfl
theorem info38:(Try.prog.info? 38).map (fun i=>(i.zero,i.size,i.bytes)) = some (some (.agg #[(.string ⟨#[]⟩),(.slice none 0 0),(.int .i64 0),(.slice none 0 0),(.slice none 0 0)]),5,96):=by kernel_rfl
theorem info42:(Try.prog.info? 42).map (fun i=>(i.zero,i.size,i.bytes)) = some (some (.agg #[(.int .i64 0),(.int .i64 0),(.int .i64 0),(.slice none 0 0)]),4,48):=by kernel_rfl
theorem info46:(Try.prog.info? 46).map (fun i=>(i.zero,i.size,i.bytes)) = some (some (.agg #[(.slice none 0 0),(.slice none 0 0),(.int .i64 0),(.int .i64 0),(.slice none 0 0),(.slice none 0 0)]),6,112):=by kernel_rfl
theorem info87:(Try.prog.info? 87).map (fun i=>(i.zero,i.size,i.bytes)) = some (some (.agg #[(.int .i64 0),(.int .i64 0),(.int .i64 0)]),3,24):=by kernel_rfl
def rd_L2 (xs:List (List Int)) (i:Int):(List Int):=xs.getD i.toNat ([]:List Int)
theorem at_L2 {w:World} {A:Option Addr} {n:Nat} {xs:List (List Int)} (h:Kd.C (Kd.slice 3 (Kd.int .i64)) w A n xs) (i:Int) (h0:0 ≤ i) (h1:i < n):∃ ad A0 c0,A = some ad ∧ w.cell? (ad.add i.toNat) = some (.slice A0 (rd_L2 xs i).length c0) ∧ (rd_L2 xs i).length ≤ c0 ∧ (Kd.int .i64).C w A0 (rd_L2 xs i).length (rd_L2 xs i):=by
 obtain ⟨ad,c,e,_,hK,hc0⟩:=Kd.C_get h ([]:List Int) i h0 h1
 have hc:∀ j u,c[j]? = some u → w.cell? (ad.add (i.toNat * 1 + j)) = some u:=hc0
 obtain ⟨A0,c0,rfl,l0,g0⟩:=hK
 exact ⟨ad,A0,c0,e,by have hq:=hc 0 _ rfl;rwa [Nat.mul_one,Nat.add_zero] at hq,l0,g0⟩
structure S42 where
 f0:Int
 f1:Int
 f2:Int
 f3:(List Int)
def z42:S42:=⟨(0:Int),(0:Int),(0:Int),([]:List Int)⟩
def k42:Kd S42:=Kd.iso (Kd.pair (Kd.int .i64) (Kd.pair (Kd.int .i64) (Kd.pair (Kd.int .i64) (Kd.slice 3 (Kd.int .i64))))) (fun x:S42=>(x.f0,x.f1,x.f2,x.f3))
theorem k42_open {w:World} {x:S42} {cs:List Value} (h:k42.K w x cs):∃ A3 c3,cs = [.int .i64 x.f0,.int .i64 x.f1,.int .i64 x.f2,.slice A3 x.f3.length c3] ∧ x.f3.length ≤ c3 ∧ (Kd.int .i64).C w A3 x.f3.length x.f3:=by
 obtain ⟨_,_,rfl,rfl,⟨_,_,rfl,rfl,⟨_,_,rfl,rfl,⟨A3,c3,rfl,l3,g3⟩⟩⟩⟩:=h
 exact ⟨A3,c3,rfl,l3,g3⟩
theorem k42_mk (w:World) (x:S42) {A3:Option Addr} {c3:Nat} (l3:x.f3.length ≤ c3) (g3:(Kd.int .i64).C w A3 x.f3.length x.f3):k42.K w x [.int .i64 x.f0,.int .i64 x.f1,.int .i64 x.f2,.slice A3 x.f3.length c3]:=⟨[.int .i64 x.f0],[.int .i64 x.f1,.int .i64 x.f2,.slice A3 x.f3.length c3],rfl,rfl,⟨[.int .i64 x.f1],[.int .i64 x.f2,.slice A3 x.f3.length c3],rfl,rfl,⟨[.int .i64 x.f2],[.slice A3 x.f3.length c3],rfl,rfl,⟨A3,c3,rfl,l3,g3⟩⟩⟩⟩
theorem k42_mkF (W:World) (ok:Nat → Prop) (x:S42) {A3:Option Addr} {c3:Nat} (l3:x.f3.length ≤ c3) (g3:Kd.F (Kd.int .i64) W ok A3 x.f3.length x.f3):Kd.FK k42 W ok x [.int .i64 x.f0,.int .i64 x.f1,.int .i64 x.f2,.slice A3 x.f3.length c3]:=fun W2 hW=>k42_mk W2 x l3 (g3 W2 hW)
def rd_T42 (xs:List S42) (i:Int):S42:=xs.getD i.toNat z42
theorem at_T42 {w:World} {A:Option Addr} {n:Nat} {xs:List S42} (h:Kd.C k42 w A n xs) (i:Int) (h0:0 ≤ i) (h1:i < n):∃ ad A3 c3,A = some ad ∧ w.cell? (ad.add (i.toNat * 4)) = some (.int .i64 (rd_T42 xs i).f0) ∧ w.cell? ⟨(ad.add (i.toNat * 4)).block,(ad.add (i.toNat * 4)).off + 1,none⟩ = some (.int .i64 (rd_T42 xs i).f1) ∧ w.cell? ⟨(ad.add (i.toNat * 4)).block,(ad.add (i.toNat * 4)).off + 2,none⟩ = some (.int .i64 (rd_T42 xs i).f2) ∧ w.cell? ⟨(ad.add (i.toNat * 4)).block,(ad.add (i.toNat * 4)).off + 3,none⟩ = some (.slice A3 (rd_T42 xs i).f3.length c3) ∧ (rd_T42 xs i).f3.length ≤ c3 ∧ (Kd.int .i64).C w A3 (rd_T42 xs i).f3.length (rd_T42 xs i).f3:=by
 obtain ⟨ad,c,e,_,hK,hc0⟩:=Kd.C_get h z42 i h0 h1
 have hc:∀ j u,c[j]? = some u → w.cell? (ad.add (i.toNat * 4 + j)) = some u:=hc0
 obtain ⟨A3,c3,rfl,l3,g3⟩:=k42_open hK
 exact ⟨ad,A3,c3,e,hc 0 _ rfl,by rw [← add_field _ _ 1 (by omega)];exact hc 1 _ rfl,by rw [← add_field _ _ 2 (by omega)];exact hc 2 _ rfl,by rw [← add_field _ _ 3 (by omega)];exact hc 3 _ rfl,l3,g3⟩
structure S44 where
 f0:Int
 f1:Int
 f2:(List Int)
def z44:S44:=⟨(0:Int),(0:Int),([]:List Int)⟩
def k44:Kd S44:=Kd.iso (Kd.pair (Kd.int .i64) (Kd.pair (Kd.int .i64) (Kd.slice 3 (Kd.int .i64)))) (fun x:S44=>(x.f0,x.f1,x.f2))
theorem k44_open {w:World} {x:S44} {cs:List Value} (h:k44.K w x cs):∃ A2 c2,cs = [.int .i64 x.f0,.int .i64 x.f1,.slice A2 x.f2.length c2] ∧ x.f2.length ≤ c2 ∧ (Kd.int .i64).C w A2 x.f2.length x.f2:=by
 obtain ⟨_,_,rfl,rfl,⟨_,_,rfl,rfl,⟨A2,c2,rfl,l2,g2⟩⟩⟩:=h
 exact ⟨A2,c2,rfl,l2,g2⟩
theorem k44_mk (w:World) (x:S44) {A2:Option Addr} {c2:Nat} (l2:x.f2.length ≤ c2) (g2:(Kd.int .i64).C w A2 x.f2.length x.f2):k44.K w x [.int .i64 x.f0,.int .i64 x.f1,.slice A2 x.f2.length c2]:=⟨[.int .i64 x.f0],[.int .i64 x.f1,.slice A2 x.f2.length c2],rfl,rfl,⟨[.int .i64 x.f1],[.slice A2 x.f2.length c2],rfl,rfl,⟨A2,c2,rfl,l2,g2⟩⟩⟩
structure S46 where
 f0:(List Int)
 f1:(List Int)
 f2:S44
 f3:(List Int)
def z46:S46:=⟨([]:List Int),([]:List Int),z44,([]:List Int)⟩
def k46:Kd S46:=Kd.iso (Kd.pair (Kd.slice 3 (Kd.int .i64)) (Kd.pair (Kd.slice 3 (Kd.int .i64)) (Kd.pair k44 (Kd.slice 3 (Kd.int .i64))))) (fun x:S46=>(x.f0,x.f1,x.f2,x.f3))
theorem k46_open {w:World} {x:S46} {cs:List Value} (h:k46.K w x cs):∃ A0 c0 A1 c1 A4 c4 A5 c5,cs = [.slice A0 x.f0.length c0,.slice A1 x.f1.length c1,.int .i64 x.f2.f0,.int .i64 x.f2.f1,.slice A4 x.f2.f2.length c4,.slice A5 x.f3.length c5] ∧ x.f0.length ≤ c0 ∧ (Kd.int .i64).C w A0 x.f0.length x.f0 ∧ x.f1.length ≤ c1 ∧ (Kd.int .i64).C w A1 x.f1.length x.f1 ∧ x.f2.f2.length ≤ c4 ∧ (Kd.int .i64).C w A4 x.f2.f2.length x.f2.f2 ∧ x.f3.length ≤ c5 ∧ (Kd.int .i64).C w A5 x.f3.length x.f3:=by
 obtain ⟨_,_,rfl,⟨A0,c0,rfl,l0,g0⟩,⟨_,_,rfl,⟨A1,c1,rfl,l1,g1⟩,⟨_,_,rfl,s2,⟨A5,c5,rfl,l5,g5⟩⟩⟩⟩:=h
 obtain ⟨A4,c4,rfl,l4,g4⟩:=k44_open s2
 exact ⟨A0,c0,A1,c1,A4,c4,A5,c5,rfl,l0,g0,l1,g1,l4,g4,l5,g5⟩
theorem k46_mk (w:World) (x:S46) {A0:Option Addr} {c0:Nat} (l0:x.f0.length ≤ c0) (g0:(Kd.int .i64).C w A0 x.f0.length x.f0) {A1:Option Addr} {c1:Nat} (l1:x.f1.length ≤ c1) (g1:(Kd.int .i64).C w A1 x.f1.length x.f1) {A4:Option Addr} {c4:Nat} (l4:x.f2.f2.length ≤ c4) (g4:(Kd.int .i64).C w A4 x.f2.f2.length x.f2.f2) {A5:Option Addr} {c5:Nat} (l5:x.f3.length ≤ c5) (g5:(Kd.int .i64).C w A5 x.f3.length x.f3):k46.K w x [.slice A0 x.f0.length c0,.slice A1 x.f1.length c1,.int .i64 x.f2.f0,.int .i64 x.f2.f1,.slice A4 x.f2.f2.length c4,.slice A5 x.f3.length c5]:=⟨[.slice A0 x.f0.length c0],[.slice A1 x.f1.length c1,.int .i64 x.f2.f0,.int .i64 x.f2.f1,.slice A4 x.f2.f2.length c4,.slice A5 x.f3.length c5],rfl,⟨A0,c0,rfl,l0,g0⟩,⟨[.slice A1 x.f1.length c1],[.int .i64 x.f2.f0,.int .i64 x.f2.f1,.slice A4 x.f2.f2.length c4,.slice A5 x.f3.length c5],rfl,⟨A1,c1,rfl,l1,g1⟩,⟨[.int .i64 x.f2.f0,.int .i64 x.f2.f1,.slice A4 x.f2.f2.length c4],[.slice A5 x.f3.length c5],rfl,(k44_mk w x.f2 l4 g4),⟨A5,c5,rfl,l5,g5⟩⟩⟩⟩
theorem k46_mkF (W:World) (ok:Nat → Prop) (x:S46) {A0:Option Addr} {c0:Nat} (l0:x.f0.length ≤ c0) (g0:Kd.F (Kd.int .i64) W ok A0 x.f0.length x.f0) {A1:Option Addr} {c1:Nat} (l1:x.f1.length ≤ c1) (g1:Kd.F (Kd.int .i64) W ok A1 x.f1.length x.f1) {A4:Option Addr} {c4:Nat} (l4:x.f2.f2.length ≤ c4) (g4:Kd.F (Kd.int .i64) W ok A4 x.f2.f2.length x.f2.f2) {A5:Option Addr} {c5:Nat} (l5:x.f3.length ≤ c5) (g5:Kd.F (Kd.int .i64) W ok A5 x.f3.length x.f3):Kd.FK k46 W ok x [.slice A0 x.f0.length c0,.slice A1 x.f1.length c1,.int .i64 x.f2.f0,.int .i64 x.f2.f1,.slice A4 x.f2.f2.length c4,.slice A5 x.f3.length c5]:=fun W2 hW=>k46_mk W2 x l0 (g0 W2 hW) l1 (g1 W2 hW) l4 (g4 W2 hW) l5 (g5 W2 hW)
def rd_T46 (xs:List S46) (i:Int):S46:=xs.getD i.toNat z46
theorem at_T46 {w:World} {A:Option Addr} {n:Nat} {xs:List S46} (h:Kd.C k46 w A n xs) (i:Int) (h0:0 ≤ i) (h1:i < n):∃ ad A0 c0 A1 c1 A4 c4 A5 c5,A = some ad ∧ w.cell? (ad.add (i.toNat * 6)) = some (.slice A0 (rd_T46 xs i).f0.length c0) ∧ w.cell? ⟨(ad.add (i.toNat * 6)).block,(ad.add (i.toNat * 6)).off + 1,none⟩ = some (.slice A1 (rd_T46 xs i).f1.length c1) ∧ w.cell? ⟨(ad.add (i.toNat * 6)).block,(ad.add (i.toNat * 6)).off + 2,none⟩ = some (.int .i64 (rd_T46 xs i).f2.f0) ∧ w.cell? ⟨(ad.add (i.toNat * 6)).block,(ad.add (i.toNat * 6)).off + 3,none⟩ = some (.int .i64 (rd_T46 xs i).f2.f1) ∧ w.cell? ⟨(ad.add (i.toNat * 6)).block,(ad.add (i.toNat * 6)).off + 4,none⟩ = some (.slice A4 (rd_T46 xs i).f2.f2.length c4) ∧ w.cell? ⟨(ad.add (i.toNat * 6)).block,(ad.add (i.toNat * 6)).off + 5,none⟩ = some (.slice A5 (rd_T46 xs i).f3.length c5) ∧ (rd_T46 xs i).f0.length ≤ c0 ∧ (Kd.int .i64).C w A0 (rd_T46 xs i).f0.length (rd_T46 xs i).f0 ∧ (rd_T46 xs i).f1.length ≤ c1 ∧ (Kd.int .i64).C w A1 (rd_T46 xs i).f1.length (rd_T46 xs i).f1 ∧ (rd_T46 xs i).f2.f2.length ≤ c4 ∧ (Kd.int .i64).C w A4 (rd_T46 xs i).f2.f2.length (rd_T46 xs i).f2.f2 ∧ (rd_T46 xs i).f3.length ≤ c5 ∧ (Kd.int .i64).C w A5 (rd_T46 xs i).f3.length (rd_T46 xs i).f3:=by
 obtain ⟨ad,c,e,_,hK,hc0⟩:=Kd.C_get h z46 i h0 h1
 have hc:∀ j u,c[j]? = some u → w.cell? (ad.add (i.toNat * 6 + j)) = some u:=hc0
 obtain ⟨A0,c0,A1,c1,A4,c4,A5,c5,rfl,l0,g0,l1,g1,l4,g4,l5,g5⟩:=k46_open hK
 exact ⟨ad,A0,c0,A1,c1,A4,c4,A5,c5,e,hc 0 _ rfl,by rw [← add_field _ _ 1 (by omega)];exact hc 1 _ rfl,by rw [← add_field _ _ 2 (by omega)];exact hc 2 _ rfl,by rw [← add_field _ _ 3 (by omega)];exact hc 3 _ rfl,by rw [← add_field _ _ 4 (by omega)];exact hc 4 _ rfl,by rw [← add_field _ _ 5 (by omega)];exact hc 5 _ rfl,l0,g0,l1,g1,l4,g4,l5,g5⟩
structure S38 where
 f0:ByteArray
 f1:(List Int)
 f2:Int
 f3:(List S42)
 f4:(List S46)
def z38:S38:=⟨(⟨#[]⟩:ByteArray),([]:List Int),(0:Int),([]:List S42),([]:List S46)⟩
def k38:Kd S38:=Kd.iso (Kd.pair Kd.string (Kd.pair (Kd.slice 3 (Kd.int .i64)) (Kd.pair (Kd.int .i64) (Kd.pair (Kd.slice 42 k42) (Kd.slice 46 k46))))) (fun x:S38=>(x.f0,x.f1,x.f2,x.f3,x.f4))
theorem k38_open {w:World} {x:S38} {cs:List Value} (h:k38.K w x cs):∃ A1 c1 A3 c3 A4 c4,cs = [.string x.f0,.slice A1 x.f1.length c1,.int .i64 x.f2,.slice A3 x.f3.length c3,.slice A4 x.f4.length c4] ∧ x.f1.length ≤ c1 ∧ (Kd.int .i64).C w A1 x.f1.length x.f1 ∧ x.f3.length ≤ c3 ∧ k42.C w A3 x.f3.length x.f3 ∧ x.f4.length ≤ c4 ∧ k46.C w A4 x.f4.length x.f4:=by
 obtain ⟨_,_,rfl,rfl,⟨_,_,rfl,⟨A1,c1,rfl,l1,g1⟩,⟨_,_,rfl,rfl,⟨_,_,rfl,⟨A3,c3,rfl,l3,g3⟩,⟨A4,c4,rfl,l4,g4⟩⟩⟩⟩⟩:=h
 exact ⟨A1,c1,A3,c3,A4,c4,rfl,l1,g1,l3,g3,l4,g4⟩
theorem k38_mk (w:World) (x:S38) {A1:Option Addr} {c1:Nat} (l1:x.f1.length ≤ c1) (g1:(Kd.int .i64).C w A1 x.f1.length x.f1) {A3:Option Addr} {c3:Nat} (l3:x.f3.length ≤ c3) (g3:k42.C w A3 x.f3.length x.f3) {A4:Option Addr} {c4:Nat} (l4:x.f4.length ≤ c4) (g4:k46.C w A4 x.f4.length x.f4):k38.K w x [.string x.f0,.slice A1 x.f1.length c1,.int .i64 x.f2,.slice A3 x.f3.length c3,.slice A4 x.f4.length c4]:=⟨[.string x.f0],[.slice A1 x.f1.length c1,.int .i64 x.f2,.slice A3 x.f3.length c3,.slice A4 x.f4.length c4],rfl,rfl,⟨[.slice A1 x.f1.length c1],[.int .i64 x.f2,.slice A3 x.f3.length c3,.slice A4 x.f4.length c4],rfl,⟨A1,c1,rfl,l1,g1⟩,⟨[.int .i64 x.f2],[.slice A3 x.f3.length c3,.slice A4 x.f4.length c4],rfl,rfl,⟨[.slice A3 x.f3.length c3],[.slice A4 x.f4.length c4],rfl,⟨A3,c3,rfl,l3,g3⟩,⟨A4,c4,rfl,l4,g4⟩⟩⟩⟩⟩
theorem k38_mkF (W:World) (ok:Nat → Prop) (x:S38) {A1:Option Addr} {c1:Nat} (l1:x.f1.length ≤ c1) (g1:Kd.F (Kd.int .i64) W ok A1 x.f1.length x.f1) {A3:Option Addr} {c3:Nat} (l3:x.f3.length ≤ c3) (g3:Kd.F k42 W ok A3 x.f3.length x.f3) {A4:Option Addr} {c4:Nat} (l4:x.f4.length ≤ c4) (g4:Kd.F k46 W ok A4 x.f4.length x.f4):Kd.FK k38 W ok x [.string x.f0,.slice A1 x.f1.length c1,.int .i64 x.f2,.slice A3 x.f3.length c3,.slice A4 x.f4.length c4]:=fun W2 hW=>k38_mk W2 x l1 (g1 W2 hW) l3 (g3 W2 hW) l4 (g4 W2 hW)
def rd_T38 (xs:List S38) (i:Int):S38:=xs.getD i.toNat z38
theorem at_T38 {w:World} {A:Option Addr} {n:Nat} {xs:List S38} (h:Kd.C k38 w A n xs) (i:Int) (h0:0 ≤ i) (h1:i < n):∃ ad A1 c1 A3 c3 A4 c4,A = some ad ∧ w.cell? (ad.add (i.toNat * 5)) = some (.string (rd_T38 xs i).f0) ∧ w.cell? ⟨(ad.add (i.toNat * 5)).block,(ad.add (i.toNat * 5)).off + 1,none⟩ = some (.slice A1 (rd_T38 xs i).f1.length c1) ∧ w.cell? ⟨(ad.add (i.toNat * 5)).block,(ad.add (i.toNat * 5)).off + 2,none⟩ = some (.int .i64 (rd_T38 xs i).f2) ∧ w.cell? ⟨(ad.add (i.toNat * 5)).block,(ad.add (i.toNat * 5)).off + 3,none⟩ = some (.slice A3 (rd_T38 xs i).f3.length c3) ∧ w.cell? ⟨(ad.add (i.toNat * 5)).block,(ad.add (i.toNat * 5)).off + 4,none⟩ = some (.slice A4 (rd_T38 xs i).f4.length c4) ∧ (rd_T38 xs i).f1.length ≤ c1 ∧ (Kd.int .i64).C w A1 (rd_T38 xs i).f1.length (rd_T38 xs i).f1 ∧ (rd_T38 xs i).f3.length ≤ c3 ∧ k42.C w A3 (rd_T38 xs i).f3.length (rd_T38 xs i).f3 ∧ (rd_T38 xs i).f4.length ≤ c4 ∧ k46.C w A4 (rd_T38 xs i).f4.length (rd_T38 xs i).f4:=by
 obtain ⟨ad,c,e,_,hK,hc0⟩:=Kd.C_get h z38 i h0 h1
 have hc:∀ j u,c[j]? = some u → w.cell? (ad.add (i.toNat * 5 + j)) = some u:=hc0
 obtain ⟨A1,c1,A3,c3,A4,c4,rfl,l1,g1,l3,g3,l4,g4⟩:=k38_open hK
 exact ⟨ad,A1,c1,A3,c3,A4,c4,e,hc 0 _ rfl,by rw [← add_field _ _ 1 (by omega)];exact hc 1 _ rfl,by rw [← add_field _ _ 2 (by omega)];exact hc 2 _ rfl,by rw [← add_field _ _ 3 (by omega)];exact hc 3 _ rfl,by rw [← add_field _ _ 4 (by omega)];exact hc 4 _ rfl,l1,g1,l3,g3,l4,g4⟩
end Go.Proofs.Ytgbeliajhccndaa.PP
