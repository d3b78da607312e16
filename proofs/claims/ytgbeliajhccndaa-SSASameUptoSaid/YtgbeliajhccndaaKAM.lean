/- Lemmas of this claim (WF,YW). -/
import Derived.Test.YtgbeliajhccndaaRows
import Derived.Test.YtgbeliajhccndaaKAB
import Derived.ProofKit
import Derived.OpenShut
import Derived.SizedLaws
import Derived.Test.YtgbeliajhccndaaKAL
section
set_option linter.unusedVariables false
set_option linter.unusedSimpArgs false
namespace Go.Proofs.Ytgbeliajhccndaa
open Go.RowKit Go.Proofs.YtgbeliajhccndaaW.PrintWords PP
open Go.Proofs.Ytgbeliajhccndaa.Rows (uptoBulk uptoBulkAll)
structure OpU {α:Type} (P:Program) (t:TypeId) (d:Kd α) (mu:α→Nat):Prop where
 size_:P.cellsOf t=d.sz
 open_:∀ {H:Type} {enc:TypeId × Value→H} {W:World} {spare:Nat→Bool} {held:Bool} {fuel:Nat} {cs:List Value} {x:DataW H × List MemPlace},
  DataW.trod enc P W 0 spare held fuel t cs=some x→∃ a,d.K W a cs∧mu a≤uptoBulk x.1
structure OpUF {α:Type} (P:Program) (fs:List Field) (off:Nat) (d:Kd α) (mu:α→Nat):Prop where
 open_:∀ {H:Type} {enc:TypeId × Value→H} {W:World} {spare:Nat→Bool} {held:Bool} {n:Nat} {cs:List Value} {xs:List (DataW H × List MemPlace)},
  off+d.sz≤cs.length→xs.length=fs.length→(∀ (i:Nat) (f:Field),fs[i]?=some f→DataW.trod enc P W 0 spare held n f.type ((cs.drop f.offset).take (P.cellsOf f.type))=xs[i]?) →
  ∃ a,d.K W a ((cs.drop off).take d.sz)∧mu a≤uptoBulkAll (xs.map (·.1))
def sumM {α:Type} (mu:α→Nat):List α→Nat
 | []=>0
 | a :: r=>mu a+sumM mu r
theorem sumM_mem {α:Type} {mu:α→Nat}:∀ {l:List α} {a:α},a ∈ l→mu a≤sumM mu l
 | [],a,h=>by simp at h
 | x :: r,a,h=>by
   unfold sumM
   rcases List.mem_cons.1 h with rfl | h
   ·omega
   ·have:=sumM_mem (mu:=mu) h
    omega
theorem sumM_len {α:Type} {mu:α→Nat} {k:Nat} (hk:∀ a,k≤mu a):∀ l:List α,l.length * k≤sumM mu l
 | []=>by simp
 | x :: r=>by
   unfold sumM
   have:=sumM_len hk r
   have:=hk x
   rw [List.length_cons,Nat.add_mul,Nat.one_mul]
   omega
theorem sumM_bulk {α:Type} {mu:α→Nat} {H:Type}:∀ {l:List α} {es:List (DataW H)},l.length=es.length→(∀ (i:Nat) (a:α) (e:DataW H),l[i]?=some a→es[i]?=some e→mu a≤uptoBulk e)→sumM mu l≤uptoBulkAll es
 | [],[],_,_=>Nat.le_refl _
 | a :: l,e :: es,hl,h=>by
   unfold sumM uptoBulkAll
   have h0:=h 0 a e rfl rfl
   have h1:=sumM_bulk (mu:=mu) (l:=l) (es:=es) (by simpa using hl) (fun i b f hb hf=>h (i+1) b f (by simpa using hb) (by simpa using hf))
   omega
 | [],_ :: _,hl,_=>by simp at hl
 | _ :: _,[],hl,_=>by simp at hl
theorem list_ofU {α:Type} {p:Nat→α→Prop}:∀ n:Nat,(∀ i,i < n→∃ a,p i a)→∃ l:List α,l.length=n∧∀ i a,l[i]?=some a→p i a
 | 0,_=>⟨[],rfl,fun i a h=>by simp at h⟩
 | n+1,h=>by
   obtain ⟨l,hl,hp⟩:=list_ofU n (fun i hi=>h i (by omega))
   obtain ⟨a,ha⟩:=h n (by omega)
   refine ⟨l ++ [a],by simp [hl],fun i b hb=>?_⟩
   rcases Nat.lt_or_ge i l.length with hi | hi
   ·rw [List.getElem?_append_left hi] at hb
    exact hp i b hb
   ·have hi2:i=n:=by
     have:=(List.getElem?_eq_some_iff.1 hb).1
     simp at this
     omega
    subst hi2
    rw [← hl] at hb
    simp at hb
    exact hb ▸ ha
section
variable {α β:Type} {P:Program} {t e:TypeId} {d:Kd α} {d2:Kd β} {mu:α→Nat} {mu2:β→Nat}
theorem OpU.int {k:IntKind} (ht:P.underlying t=some (.int k)) (hs:P.cellsOf t=1):OpU P t (Kd.int k) (fun _=>1):=
 ⟨hs,fun h=>by obtain ⟨n,rfl,rfl,hw⟩:=DataW.trod_int ht h;exact ⟨n,rfl,Nat.le_refl _⟩⟩
theorem OpU.string (ht:P.underlying t=some .string) (hs:P.cellsOf t=1):OpU P t Kd.string (fun s=>s.size+1):=
 ⟨hs,fun {H enc W spare held fuel cs x} h=>by
  obtain ⟨s,rfl,rfl,_⟩:=DataW.trod_string ht h
  refine ⟨s,rfl,?_⟩
  show s.size+1≤s.data.toList.length+1
  rw [Array.length_toList]
  exact Nat.le_refl _⟩
theorem add_addU (a:Addr) (i j:Nat):(a.add i).add j=a.add (i+j):=by
 unfold Addr.add
 by_cases hi:i=0 <;> by_cases hj:j=0 <;> simp [hi,hj,Nat.add_assoc]
theorem OpU.slice (ht:P.underlying t=some (.slice e)) (hs:P.cellsOf t=1) (ho:OpU P e d mu):OpU P t (Kd.slice e d) (fun l=>sumM mu l+1):=by
 refine ⟨hs,fun {H enc W spare held fuel cs x} h=>?_⟩
 rcases DataW.trod_slice ht h with ⟨rfl,rfl⟩ | ⟨a,len,cap,elems,rest,n,rfl,rfl,rfl,_,hl,hm,hlen,hel,_,_⟩
 ·exact ⟨[],⟨none,0,rfl,Nat.le_refl _,Kd.C_nil d W⟩,Nat.le_refl _⟩
 ·have one:∀ i,i < len→∃ b:α,(∃ c,c.length=d.sz∧d.K W b c∧∀ j u,c[j]?=some u→W.cell? (a.add (i * d.sz+j))=some u)∧∀ y,elems[i]?=some y→mu b≤uptoBulk y.1:=by
   intro i hi
   have h1:=hel i hi
   rw [List.getElem?_eq_getElem (by omega)] at h1
   obtain ⟨c,hc,htr⟩:=Option.bind_eq_some_iff.1 h1
   obtain ⟨b,hK,hG⟩:=ho.open_ htr
   obtain ⟨_,hcl,hcc⟩:=World.cells?_some hc
   rw [ho.size_] at hcl hcc
   refine ⟨b,⟨c,hcl,hK,fun j u hu=>?_⟩,fun y hy=>?_⟩
   ·have hj:j < d.sz:=by rw [← hcl];exact (List.getElem?_eq_some_iff.1 hu).1
    have:=hcc j hj
    rw [add_addU,hu] at this
    exact this
   ·rw [List.getElem?_eq_getElem (by omega)] at hy
    injection hy with hy
    rw [← hy]
    exact hG
  obtain ⟨l,hll,hp⟩:=list_ofU len one
  refine ⟨l,⟨some a,cap,by rw [hll],by omega,hll ▸ rfl,?_,fun _=>⟨a,rfl,fun j p hj=>(hp j p hj).1⟩⟩,?_⟩
  ·rw [hll]
   simp only [maxLen] at hm
   omega
  ·have hle:=sumM_bulk (mu:=mu) (l:=l) (es:=elems.map (·.1)) (by rw [List.length_map];omega) (fun i b f hb hf=>by
    rw [List.getElem?_map] at hf
    obtain ⟨y,hy,rfl⟩:=Option.map_eq_some_iff.1 hf
    exact (hp i b hb).2 y hy)
   show sumM mu l+1≤uptoBulkAll (elems.map (·.1))+uptoBulkAll (rest.map (·.1))+1
   omega
theorem OpU.iso (f:β→α) (g:α→β) (hfg:∀ a,f (g a)=a) (ho:OpU P t d mu):OpU P t (Kd.iso d f) (fun b=>mu (f b)):=
 ⟨ho.size_,fun h=>by
  obtain ⟨a,hK,hG⟩:=ho.open_ h
  exact ⟨g a,by show d.K _ (f (g a)) _;rw [hfg];exact hK,by rw [hfg];exact hG⟩⟩
theorem OpUF.last {f:Field} {off:Nat} (hoff:f.offset=off) (ho:OpU P f.type d mu):OpUF P [f] off d mu:=by
 constructor
 intro H enc W spare held n cs xs hl hx hall
 match xs,hx with
 | [x],_=>
   have h0:=hall 0 f rfl
   rw [hoff,ho.size_] at h0
   obtain ⟨a,hK,hm⟩:=ho.open_ h0
   exact ⟨a,hK,by show mu a≤uptoBulk x.1+0;omega⟩
theorem OpUF.cons {f:Field} {fs:List Field} {off:Nat} (hoff:f.offset=off) (ho:OpU P f.type d mu) (hr:OpUF P fs (off+d.sz) d2 mu2) :
 OpUF P (f :: fs) off (Kd.pair d d2) (fun x=>mu x.1+mu2 x.2):=by
 constructor
 intro H enc W spare held n cs xs hl hx hall
 have hl':off+(d.sz+d2.sz)≤cs.length:=hl
 match xs,hx with
 | x :: xs,hx=>
   have h0:=hall 0 f rfl
   rw [hoff,ho.size_] at h0
   obtain ⟨a,hK,hG⟩:=ho.open_ h0
   obtain ⟨b,hK2,hG2⟩:=hr.open_ (cs:=cs) (xs:=xs) (by omega) (by simpa using hx) (fun i f hi=>hall (i+1) f hi)
   refine ⟨(a,b),⟨_,_,?_,hK,hK2⟩,?_⟩
   ·show (cs.drop off).take (d.sz+d2.sz)=_
    rw [List.take_add,List.drop_drop]
   ·show mu a+mu2 b≤uptoBulk x.1+uptoBulkAll (xs.map (·.1))
    omega
theorem OpU.struct {fs:Array Field} {l:List Field} (ht:P.underlying t=some (.struct fs)) (hl:fs.toList=l) (hs:P.cellsOf t=d.sz) (ho:OpUF P l 0 d mu):OpU P t d (fun x=>mu x+1):=by
 refine ⟨hs,fun {H enc W spare held fuel cs x} h=>?_⟩
 obtain ⟨xs,n,rfl,rfl,hcl,hxl,hall⟩:=DataW.trod_struct ht h
 subst hl
 obtain ⟨a,hK,hG⟩:=ho.open_ (cs:=cs) (xs:=xs) (by rw [hcl,hs];omega) (by simpa using hxl) (fun i f hi=>hall i f (by simpa using hi))
 refine ⟨a,?_,?_⟩
 ·rw [List.drop_zero,List.take_of_length_le (by rw [hcl,hs];exact Nat.le_refl _)] at hK
  exact hK
 ·show mu a+1≤uptoBulkAll (xs.map (·.1))+1
  omega
end
abbrev muL (l:List Int):Nat:=sumM (fun _:Int=>1) l+1
theorem muL_len (l:List Int):l.length≤muL l:=by
 have:=sumM_len (mu:=fun _:Int=>1) (k:=1) (fun _=>Nat.le_refl _) l
 unfold muL
 omega
theorem oI:OpU Try.prog 3 (Kd.int .i64) (fun _=>1):=OpU.int Try.underlying3 (by kernel_rfl)
theorem oL:OpU Try.prog 34 (Kd.slice 3 (Kd.int .i64)) muL:=OpU.slice Try.underlying34 (by kernel_rfl) oI
def mu42 (x:S42):Nat:=1+(1+(1+muL x.f3))+1
theorem o42:OpU Try.prog 42 k42 mu42:=OpU.iso (fun x:S42=>(x.f0,x.f1,x.f2,x.f3)) (fun x=>⟨x.1,x.2.1,x.2.2.1,x.2.2.2⟩) (fun _=>rfl) (OpU.struct Try.underlying42 rfl (by kernel_rfl) (OpUF.cons rfl oI (OpUF.cons rfl oI (OpUF.cons rfl oI (OpUF.last rfl oL)))))
def mu44 (x:S44):Nat:=1+(1+muL x.f2)+1
theorem o44:OpU Try.prog 44 k44 mu44:=OpU.iso (fun x:S44=>(x.f0,x.f1,x.f2)) (fun x=>⟨x.1,x.2.1,x.2.2⟩) (fun _=>rfl) (OpU.struct Try.underlying44 rfl (by kernel_rfl) (OpUF.cons rfl oI (OpUF.cons rfl oI (OpUF.last rfl oL))))
def mu46 (x:S46):Nat:=muL x.f0+(muL x.f1+(mu44 x.f2+muL x.f3))+1
theorem o46:OpU Try.prog 46 k46 mu46:=OpU.iso (fun x:S46=>(x.f0,x.f1,x.f2,x.f3)) (fun x=>⟨x.1,x.2.1,x.2.2.1,x.2.2.2⟩) (fun _=>rfl) (OpU.struct Try.underlying46 rfl (by kernel_rfl) (OpUF.cons rfl oL (OpUF.cons rfl oL (OpUF.cons rfl o44 (OpUF.last rfl oL)))))
def mu38 (x:S38):Nat:=(x.f0.size+1)+(muL x.f1+(1+((sumM mu42 x.f3+1)+(sumM mu46 x.f4+1))))+1
theorem oS:OpU Try.prog 9 Kd.string (fun s=>s.size+1):=OpU.string Try.underlying9 (by kernel_rfl)
set_option maxRecDepth 100000 in
theorem o38:OpU Try.prog 38 k38 mu38:=OpU.iso (fun x:S38=>(x.f0,x.f1,x.f2,x.f3,x.f4)) (fun x=>⟨x.1,x.2.1,x.2.2.1,x.2.2.2.1,x.2.2.2.2⟩) (fun _=>rfl) (OpU.struct Try.underlying38 rfl (by kernel_rfl) (OpUF.cons rfl oS (OpUF.cons rfl oL (OpUF.cons rfl oI (OpUF.cons rfl (OpU.slice Try.underlying35 (by kernel_rfl) o42) (OpUF.last rfl (OpU.slice Try.underlying36 (by kernel_rfl) o46)))))))
abbrev k24:Kd (List S38 × Int):=Kd.pair (Kd.slice 38 k38) (Kd.int .i64)
def mu24 (x:List S38 × Int):Nat:=(sumM mu38 x.1+1)+1+1
set_option maxRecDepth 100000 in
theorem o24:OpU Try.prog 24 k24 mu24:=by
 have h:OpUF Try.prog _ 0 k24 (fun x:List S38 × Int=>(fun l=>sumM mu38 l+1) x.1+(fun _:Int=>1) x.2):=OpUF.cons (mu:=fun l=>sumM mu38 l+1) (mu2:=fun _:Int=>1) (f:={ name:="Funcs",type:=22,offset:=0,embedded:=false,tag:="",pkgPath:="",byteOffset:=0 }) rfl (OpU.slice Try.underlying22 (by kernel_rfl) o38) (OpUF.last (f:={ name:="Main",type:=3,offset:=1,embedded:=false,tag:="",pkgPath:="",byteOffset:=24 }) rfl oI)
 exact OpU.struct Try.underlying24 rfl (by kernel_rfl) h
theorem size_of {x:List S38 × Int} (h:mu24 x≤1048576):SizeH x.1:=by
 unfold mu24 at h
 have hn:=sumM_len (mu:=mu38) (k:=1) (fun a=>by unfold mu38;omega) x.1
 have hf:∀ f ∈ x.1,mu38 f≤1048576:=fun f hf=>by have:=sumM_mem (mu:=mu38) hf;omega
 have hb:∀ f ∈ x.1,f.f4.length * 8≤1048576:=fun f hm=>by
  have h1:=hf f hm
  have:=sumM_len (mu:=mu46) (k:=8) (fun a=>by unfold mu46 mu44 muL;omega) f.f4
  unfold mu38 at h1
  omega
 refine ⟨by omega,fun f hm=>?_,fun f hm=>by have:=hb f hm;omega,fun f hm=>?_⟩
 ·have h1:=hf f hm
  unfold mu38 at h1
  have h3:=sumM_len (mu:=mu42) (k:=1) (fun a=>by unfold mu42;omega) f.f3
  have h4:=hb f hm
  have hp:=muL_len f.f1
  refine ⟨by omega,by omega,by omega,fun v hv=>?_,fun b hbm=>?_⟩
  ·have h5:=sumM_mem (mu:=mu42) hv
   have h6:=muL_len v.f3
   have h7:mu42 v=1+(1+(1+muL v.f3))+1:=rfl
   omega
  ·have h5:=sumM_mem (mu:=mu46) hbm
   have h6:=muL_len b.f0
   have h7:=muL_len b.f1
   have h8:=muL_len b.f2.f2
   have h9:=muL_len b.f3
   have h0:mu46 b=muL b.f0+(muL b.f1+((1+(1+muL b.f2.f2)+1)+muL b.f3))+1:=rfl
   refine ⟨?_,?_,?_,?_⟩ <;> omega
 ·have h1:=hf f hm
  unfold mu38 at h1
  omega
end Go.Proofs.Ytgbeliajhccndaa
end
section
end
