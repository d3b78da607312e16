/- Lemmas of this claim (TD,TE,TF). -/
import Derived.Test.YtgbeliajhccndaaKN
section
set_option linter.unusedVariables false
set_option linter.unusedSimpArgs false
namespace Go.Proofs.Ytgbeliajhccndaa
def StC (ts:List (List Int)):List (Int × Nat) → Prop
 | []=>True
 | [(b,_)]=>b = 0
 | (b,_) :: (c,n) :: r=>Ed ts c b ∧ StC ts ((c,n) :: r)
def DsP (ts:List (List Int)) (S:List Int):List Int → Prop
 | []=>True
 | d :: r=>(d = 0 ∨ ∃ x,Ed ts x d ∧ (x ∈ r ∨ x ∈ S)) ∧ DsP ts S r
theorem DsP.mono {ts:List (List Int)} {S S':List Int} (h:∀ x ∈ S,x ∈ S'):∀ {l},DsP ts S l → DsP ts S' l
 | [],_=>trivial
 | d :: r,⟨h1,h2⟩=>⟨h1.imp id (fun ⟨x,he,hx⟩=>⟨x,he,hx.imp id (h x)⟩),h2.mono h⟩
theorem DsP.pop {ts:List (List Int)} {S:List Int} {b:Int} (hb:b = 0 ∨ ∃ x,Ed ts x b ∧ x ∈ S):∀ {l},DsP ts (b :: S) l → DsP ts S (l ++ [b])
 | [],_=>⟨hb.imp id (fun ⟨x,he,hx⟩=>⟨x,he,.inr hx⟩),trivial⟩
 | d :: r,⟨h1,h2⟩=>⟨h1.imp id (fun ⟨x,he,hx⟩=>⟨x,he,by
     rcases hx with hx | hx
     ·exact .inl (by simp [hx])
     ·rcases List.mem_cons.1 hx with rfl | hx
      ·exact .inl (by simp)
      ·exact .inr hx⟩),h2.pop hb⟩
structure LI (ts:List (List Int)) (m:Int → Int) (st:List (Int × Nat)) (ds:List Int):Prop where
 seen:∀ x,m x ≠ 0 ↔ x ∈ st.map Prod.fst ∨ x ∈ ds
 nodup:(st.map Prod.fst ++ ds).Nodup
 way:∀ x,x ∈ st.map Prod.fst ∨ x ∈ ds → inB ts.length x = true ∧ Way ts (-1) x
 chain:StC ts st
 scan:∀ p ∈ st,∀ c ∈ (ts.getD p.1.toNat []).take p.2,m c ≠ 0
 scan2:∀ d ∈ ds,∀ c,Ed ts d c → m c ≠ 0
 par:DsP ts (st.map Prod.fst) ds
 last:st = [] → ds.getLast? = some 0
theorem scanL_none {m:Int → Int}:∀ {l:List Int} {nx nx':Nat},scanL m l nx = (nx',none) → ∀ c ∈ l,m c ≠ 0
 | [],_,_,_,c,hc=>by cases hc
 | a :: r,nx,nx',h,c,hc=>by
   rw [scanL] at h
   split at h
   ·cases h
   ·rename_i h0
    rcases List.mem_cons.1 hc with rfl | hc
    ·exact h0
    ·exact scanL_none h c hc
theorem scanL_some {m:Int → Int}:∀ {l:List Int} {nx nx':Nat} {c:Int},scanL m l nx = (nx',some c) → ∃ a r,l = a ++ c :: r ∧ nx' = nx + a.length + 1 ∧ m c = 0 ∧ ∀ x ∈ a,m x ≠ 0
 | [],_,_,_,h=>by cases h
 | a :: r,nx,nx',c,h=>by
   rw [scanL] at h
   split at h
   ·rename_i h0
    injection h with h1 h2
    injection h2 with h2
    subst h2
    exact ⟨[],r,rfl,by simp;omega,h0,by simp⟩
   ·rename_i h0
    obtain ⟨a',r',h1,h2,h3,h4⟩:=scanL_some h
    exact ⟨a :: a',r',by rw [h1];rfl,by rw [h2,List.length_cons];omega,h3,fun x hx=>by
     rcases List.mem_cons.1 hx with rfl | hx
     ·exact h0
     ·exact h4 x hx⟩
def unseen (n:Nat) (m:Int → Int):Nat:=(List.range n).countP fun i:Nat=>decide (m (i:Int) = 0)
theorem unseen_upd {n:Nat} {m:Int → Int} {c:Int} (hc:inB n c = true) (h0:m c = 0):unseen n (updI m c 1) < unseen n m:=by
 obtain ⟨c0,c1⟩:=inB_iff hc
 have hy:((c.toNat:Nat):Int) = c:=Int.toNat_of_nonneg c0
 refine countP_lt (y:=c.toNat) (fun x hx=>?_) (by simp;omega) ?_ ?_
 ·simp only [decide_eq_true_eq] at hx ⊢
  unfold updI at hx
  split at hx
  ·cases hx
  ·exact hx
 ·simp [updI,hy]
 ·simp [hy,h0]
theorem lineF_ok {ts:List (List Int)} (hg:goodB ts = true):∀ (k:Nat) (m:Int → Int) (st:List (Int × Nat)) (ds:List Int),LI ts m st ds → 2 * unseen ts.length m + st.length < k → ∃ r m',lineF ts k m st ds = some r ∧ LI ts m' [] r:=by
 intro k
 induction k with
 | zero=>intro m st ds _ h;omega
 | succ k ih=>
   intro m st ds hI hk
   cases st with
   | nil=>exact ⟨ds,m,by rw [lineF],hI⟩
   | cons p st=>
     obtain ⟨b,nx⟩:=p
     rw [List.length_cons] at hk
     have hbw:=hI.way b (.inl (by simp))
     rw [lineF]
     obtain ⟨nx',fo,hS⟩:∃ nx' fo,scanL m ((ts.getD b.toNat []).drop nx) nx = (nx',fo):=⟨_,_,rfl⟩
     rw [hS]
     cases fo with
     | none=>
       have hall:∀ c,Ed ts b c → m c ≠ 0:=by
        intro c hc
        unfold Ed at hc
        rw [← List.take_append_drop nx (ts.getD b.toNat [])] at hc
        rcases List.mem_append.1 hc with hc | hc
        ·exact hI.scan (b,nx) (by simp) c hc
        ·exact scanL_none hS c hc
       have hpar:b = 0 ∨ ∃ x,Ed ts x b ∧ x ∈ st.map Prod.fst:=by
        have:=hI.chain
        cases st with
        | nil=>exact .inl this
        | cons q r=>exact .inr ⟨q.1,this.1,by simp⟩
       refine ih m st (ds ++ [b]) ?_ (by omega)
       refine ⟨fun x=>?_,?_,fun x hx=>?_,?_,fun p hp=>hI.scan p (by simp [hp]),fun d hd c hc=>?_,hI.par.pop hpar,fun hst=>by simp;subst hst;exact hI.chain⟩
       ·rw [hI.seen x]
        simp only [List.map_cons,List.mem_cons,List.mem_append,List.mem_singleton,List.not_mem_nil,or_false]
        constructor
        ·rintro ((h | h) | h)
         ·exact .inr (.inr h)
         ·exact .inl h
         ·exact .inr (.inl h)
        ·rintro (h | h | h)
         ·exact .inl (.inr h)
         ·exact .inr h
         ·exact .inl (.inl h)
       ·have hn:=hI.nodup
        simp only [List.map_cons,List.cons_append,List.nodup_cons] at hn
        rw [← List.append_assoc]
        rw [List.nodup_append]
        refine ⟨hn.2,by simp,fun x hx y hy=>?_⟩
        simp at hy
        subst hy
        intro e
        subst e
        exact hn.1 hx
       ·refine hI.way x ?_
        rcases hx with hx | hx
        ·exact .inl (by simp at hx ⊢;exact .inr hx)
        ·simp only [List.mem_append,List.mem_singleton] at hx
         rcases hx with hx | rfl
         ·exact .inr hx
         ·exact .inl (by simp)
       ·have:=hI.chain
        cases st with
        | nil=>exact trivial
        | cons q r=>exact this.2
       ·simp only [List.mem_append,List.mem_singleton] at hd
        rcases hd with hd | rfl
        ·exact hI.scan2 d hd c hc
        ·exact hall c hc
     | some c=>
       obtain ⟨a,r,h1,h2,h3,h4⟩:=scanL_some hS
       have hce:Ed ts b c:=by
        unfold Ed
        rw [← List.take_append_drop nx (ts.getD b.toNat []),h1]
        simp
       have hcV:inB ts.length c = true:=goodB_row hg b hbw.1 c hce
       have hcW:Way ts (-1) c:=hbw.2.step hce (by have:=inB_iff hcV;omega)
       have hup:∀ x,updI m c 1 x ≠ 0 ↔ x = c ∨ m x ≠ 0:=by
        intro x
        unfold updI
        split
        ·rename_i e;simp [e]
        ·rename_i e;simp [e]
       have hcn:¬ (c ∈ ((b,nx) :: st).map Prod.fst ∨ c ∈ ds):=fun hh=>((hI.seen c).2 hh) h3
       refine ih (updI m c 1) ((c,0) :: (b,nx') :: st) ds ?_ (by have:=unseen_upd hcV h3;rw [List.length_cons,List.length_cons];omega)
       refine ⟨fun x=>?_,?_,fun x hx=>?_,⟨hce,?_⟩,fun p hp=>?_,fun d hd e he=>(hup e).2 (.inr (hI.scan2 d hd e he)),hI.par.mono (fun x hx=>by simp at hx ⊢;exact .inr hx),fun h=>by cases h⟩
       ·rw [hup,hI.seen x]
        simp only [List.map_cons,List.mem_cons]
        constructor
        ·rintro (h | (h | h) | h)
         ·exact .inl (.inl h)
         ·exact .inl (.inr (.inl h))
         ·exact .inl (.inr (.inr h))
         ·exact .inr h
        ·rintro ((h | h | h) | h)
         ·exact .inl h
         ·exact .inr (.inl (.inl h))
         ·exact .inr (.inl (.inr h))
         ·exact .inr (.inr h)
       ·have hn:=hI.nodup
        simp only [List.map_cons,List.cons_append] at hn ⊢
        rw [List.nodup_cons]
        refine ⟨fun hh=>hcn ?_,hn⟩
        rw [← List.cons_append,List.mem_append] at hh
        exact hh
       ·simp only [List.map_cons,List.mem_cons] at hx
        rcases hx with (rfl | hx) | hx
        ·exact ⟨hcV,hcW⟩
        ·exact hI.way x (.inl (by simp only [List.map_cons,List.mem_cons];exact hx))
        ·exact hI.way x (.inr hx)
       ·have:=hI.chain
        cases st with
        | nil=>exact this
        | cons q r=>exact this
       ·rcases List.mem_cons.1 hp with rfl | hp
        ·intro e he;simp at he
        ·rcases List.mem_cons.1 hp with rfl | hp
         ·intro e he
          refine (hup e).2 ?_
          have hsplit:(ts.getD b.toNat []).take nx' = (ts.getD b.toNat []).take nx ++ (a ++ [c]) ∨ (ts.getD b.toNat []).length ≤ nx:=by
           by_cases hl:(ts.getD b.toNat []).length ≤ nx
           ·exact .inr hl
           ·refine .inl ?_
            rw [h2,show nx + a.length + 1 = nx + (a.length + 1) from by omega,List.take_add,h1]
            congr 1
            rw [show a.length + 1 = (a ++ [c]).length from by simp,show a ++ c :: r = (a ++ [c]) ++ r from by simp,List.take_left]
          rcases hsplit with hs | hs
          ·rw [hs] at he
           rcases List.mem_append.1 he with he | he
           ·exact .inr (hI.scan (b,nx) (by simp) e he)
           ·rcases List.mem_append.1 he with he | he
            ·exact .inr (h4 e he)
            ·exact .inl (by simpa using he)
          ·rw [List.drop_eq_nil_of_le hs] at h1
           simp at h1
         ·intro e he
          exact (hup e).2 (.inr (hI.scan p (by simp [hp]) e he))
structure Line (ts:List (List Int)) (r:List Int):Prop where
 nodup:r.Nodup
 way:∀ x ∈ r,inB ts.length x = true ∧ Way ts (-1) x
 closed:∀ x ∈ r,∀ y,Ed ts x y → y ∈ r
 head:∃ t,r = 0 :: t
 par:∀ i,0 < i → i < r.length → ∃ j,j < i ∧ Ed ts (r.getD j 0) (r.getD i 0)
theorem DsP.at_ {ts:List (List Int)}:∀ {l:List Int},DsP ts [] l → ∀ i,i < l.length → l.getD i 0 = 0 ∨ ∃ j,i < j ∧ j < l.length ∧ Ed ts (l.getD j 0) (l.getD i 0)
 | [],_,i,hi=>by simp at hi
 | d :: r,⟨h1,h2⟩,0,hi=>by
   rcases h1 with h1 | ⟨x,he,hx | hx⟩
   ·exact .inl (by simpa using h1)
   ·obtain ⟨j,hj,e⟩:=List.mem_iff_getElem.1 hx
    exact .inr ⟨j + 1,by omega,by simp;omega,by simp [List.getD_eq_getElem?_getD,hj,e];exact he⟩
   ·cases hx
 | d :: r,⟨h1,h2⟩,i + 1,hi=>by
   rw [List.length_cons] at hi
   rcases h2.at_ i (by omega) with h | ⟨j,hj,hj2,he⟩
   ·exact .inl (by simpa using h)
   ·exact .inr ⟨j + 1,by omega,by simp;omega,by simpa using he⟩
theorem lineOf_ok {ts:List (List Int)} (hg:goodB ts = true) {K:Nat} (hK:2 * ts.length + 1 < K):∃ r,lineOf ts K = some r ∧ Line ts r:=by
 have hn:0 < ts.length:=by unfold goodB at hg;simp only [Bool.and_eq_true,decide_eq_true_eq] at hg;exact hg.2
 have h0:LI ts startM [(0,0)] []:=by
  refine ⟨fun x=>?_,by simp,fun x hx=>?_,rfl,fun p hp c hc=>?_,fun d hd=>(by cases hd),trivial,fun h=>(by cases h)⟩
  ·unfold startM updI
   by_cases e:x = 0 <;> simp [e]
  ·simp at hx
   subst hx
   exact ⟨by simp [inB];omega,Way.zero (by omega)⟩
  ·simp at hp;subst hp;simp at hc
 obtain ⟨r0,m',h1,h2⟩:=lineF_ok hg K startM [(0,0)] [] h0 (by
  have:unseen ts.length startM ≤ ts.length:=by unfold unseen;have:=List.countP_le_length (p:=fun i:Nat=>decide (startM (i:Int) = 0)) (l:=List.range ts.length);simpa using this
  simp;omega)
 refine ⟨r0.reverse,by unfold lineOf;rw [h1];rfl,?_⟩
 have hseen:∀ x,m' x ≠ 0 ↔ x ∈ r0:=fun x=>by rw [h2.seen x];simp
 refine ⟨by have:=h2.nodup;simp at this;exact List.pairwise_reverse.2 (this.imp fun h=>Ne.symm h),fun x hx=>h2.way x (.inr (by simpa using hx)),fun x hx y he=>by rw [List.mem_reverse,← hseen];exact h2.scan2 x (by simpa using hx) y he,?_,fun i hi0 hi=>?_⟩
 ·have:=h2.last rfl
  rw [← List.head?_reverse] at this
  cases hr:r0.reverse with
  | nil=>rw [hr] at this;cases this
  | cons a t=>rw [hr] at this;simp at this;exact ⟨t,by rw [this]⟩
 ·rw [List.length_reverse] at hi
  have hrev:∀ q,q < r0.length → r0.reverse.getD q 0 = r0.getD (r0.length - 1 - q) 0:=by
   intro q hq
   simp [List.getD_eq_getElem?_getD,List.getElem?_reverse hq]
  have hat:=(DsP.at_ h2.par) (r0.length - 1 - i) (by omega)
  rcases hat with h | ⟨j,hj,hj2,he⟩
  ·exfalso
   have hl:=h2.last rfl
   rw [List.getLast?_eq_getElem?] at hl
   have hnd:r0.Nodup:=by have:=h2.nodup;simpa using this
   have e1:r0[r0.length - 1 - i]'(by omega) = 0:=by
    rw [List.getD_eq_getElem?_getD,List.getElem?_eq_getElem (by omega)] at h;simpa using h
   have e2:r0[r0.length - 1]'(by omega) = 0:=by
    rw [List.getElem?_eq_getElem (by omega)] at hl;injection hl
   have:=(List.getElem_inj hnd).1 (e1.trans e2.symm)
   omega
  ·refine ⟨r0.length - 1 - j,by omega,?_⟩
   rw [hrev _ (by omega),hrev _ hi]
   have:r0.length - 1 - (r0.length - 1 - j) = j:=by omega
   rw [this]
   exact he
theorem Line.all {ts:List (List Int)} {r:List Int} (h:Line ts r) {x:Int} (hw:Way ts (-1) x):x ∈ r:=by
 refine Way.ind (Q:=fun x=>x ∈ r) (fun _=>?_) (fun p x _ hp he _=>h.closed p hp x he) hw
 obtain ⟨t,e⟩:=h.head
 rw [e];simp
end Go.Proofs.Ytgbeliajhccndaa
end
section
set_option linter.unusedVariables false
set_option linter.unusedSimpArgs false
namespace Go.Proofs.Ytgbeliajhccndaa
abbrev tp (T:List Int) (x:Int):Int:=T.getD x.toNat 0
theorem tp_set {T:List Int} {b x r:Int} (hb:inB T.length b = true) (hx:0 ≤ x):tp (T.set b.toNat r) x = if x = b then r else tp T x:=by
 obtain ⟨b0,b1⟩:=inB_iff hb
 unfold tp
 rw [List.getD_eq_getElem?_getD,List.getElem?_set]
 by_cases e:x = b
 ·subst e
  rw [if_pos rfl,if_pos rfl,if_pos (by omega)];rfl
 ·rw [if_neg e,if_neg (by omega),← List.getD_eq_getElem?_getD]
structure Pl (n:Nat) (P:List Int):Prop where
 inj:∀ x y,inB n x = true → inB n y = true → tp P x = tp P y → x = y
 range:∀ x,inB n x = true → 0 ≤ tp P x ∧ tp P x < (n:Int)
 zero:tp P 0 = 0
structure TT (ts:List (List Int)) (P T:List Int):Prop where
 len:T.length = ts.length
 z:tp T 0 = 0
 kn:∀ x,inB ts.length x = true → x ≠ 0 → 0 ≤ tp T x → inB ts.length (tp T x) = true ∧ 0 ≤ tp T (tp T x) ∧ tp P (tp T x) < tp P x
 jj:∀ x,inB ts.length x = true → x ≠ 0 → 0 ≤ tp T x → ∀ a,a ≠ x → Dm ts a x → Dm ts a (tp T x)
def LK (ts:List (List Int)) (T:List Int) (k:Nat):Prop:=∀ x,inB ts.length x = true → x ≠ 0 → 0 ≤ tp T x → DomK ts k (tp T x) x
section
variable {ts:List (List Int)} {P T:List Int}
theorem dom_place (hP:Pl ts.length P) (h:TT ts P T) {a:Int}:∀ (N:Nat) (m:Int),inB ts.length m = true → 0 ≤ tp T m → tp P m < (N:Int) → Dm ts a m → inB ts.length a = true ∧ 0 ≤ tp T a ∧ tp P a ≤ tp P m:=by
 intro N
 induction N with
 | zero=>intro m hm _ h0;have:=(hP.range m hm).1;omega
 | succ N ih=>
   intro m hm hk hN hd
   by_cases e:a = m
   ·subst e;exact ⟨hm,hk,Int.le_refl _⟩
   by_cases e0:m = 0
   ·subst e0;exact absurd hd.zero e
   obtain ⟨k1,k2,k3⟩:=h.kn m hm e0 hk
   obtain ⟨q1,q2,q3⟩:=ih (tp T m) k1 k2 (by omega) (h.jj m hm e0 hk a e hd)
   exact ⟨q1,q2,by omega⟩
theorem climb_ok (hP:Pl ts.length P) (h:TT ts P T):∀ (k:Nat) (p m:Int),inB ts.length p = true → 0 ≤ tp T p → inB ts.length m = true → 0 ≤ tp T m → tp P p + tp P m < (k:Int) →
 ∃ r,climb T P k p m = some r ∧ inB ts.length r = true ∧ 0 ≤ tp T r ∧ tp P r ≤ tp P p ∧ tp P r ≤ tp P m ∧ (∀ a,Dm ts a p → Dm ts a m → Dm ts a r) ∧ (∀ q,LK ts T q → DomK ts q r p ∧ DomK ts q r m):=by
 intro k
 induction k with
 | zero=>intro p m hp _ hm _ h0;have:=(hP.range p hp).1;have:=(hP.range m hm).1;omega
 | succ k ih=>
   intro p m hp hkp hm hkm hk
   rw [climb]
   by_cases e:p = m
   ·subst e
    rw [if_pos rfl]
    exact ⟨p,rfl,hp,hkp,Int.le_refl _,Int.le_refl _,fun a h1 _=>h1,fun q _=>⟨DomK.refl q p,DomK.refl q p⟩⟩
   ·rw [if_neg e,h.len,hp,hm]
    simp only [Bool.and_self,if_true]
    have rp:=hP.range p hp
    have rm:=hP.range m hm
    by_cases hgt:P.getD p.toNat 0 > P.getD m.toNat 0
    ·rw [if_pos hgt]
     have hgt':tp P m < tp P p:=hgt
     have p0:p ≠ 0:=fun e0=>by rw [e0,hP.zero] at hgt';omega
     obtain ⟨k1,k2,k3⟩:=h.kn p hp p0 hkp
     obtain ⟨r,e1,e2,e3,e4,e5,e6,e7⟩:=ih (tp T p) m k1 k2 hm hkm (by omega)
     refine ⟨r,e1,e2,e3,by omega,e5,fun a h1 h2=>e6 a ?_ h2,fun q hq=>⟨(e7 q hq).1.trans (hq p hp p0 hkp),(e7 q hq).2⟩⟩
     refine h.jj p hp p0 hkp a (fun ea=>?_) h1
     subst ea
     have:=(dom_place hP h (tp P m + 1).toNat m hm hkm (by omega) h2).2.2
     omega
    ·rw [if_neg hgt]
     have hgt':¬ tp P m < tp P p:=hgt
     have hne:tp P p ≠ tp P m:=fun e2=>e (hP.inj p m hp hm e2)
     have m0:m ≠ 0:=fun e0=>by rw [e0,hP.zero] at hne hgt';omega
     obtain ⟨k1,k2,k3⟩:=h.kn m hm m0 hkm
     obtain ⟨r,e1,e2,e3,e4,e5,e6,e7⟩:=ih p (tp T m) hp hkp k1 k2 (by omega)
     refine ⟨r,e1,e2,e3,e4,by omega,fun a h1 h2=>e6 a h1 ?_,fun q hq=>⟨(e7 q hq).1,(e7 q hq).2.trans (hq m hm m0 hkm)⟩⟩
     refine h.jj m hm m0 hkm a (fun ea=>?_) h2
     subst ea
     have:=(dom_place hP h (tp P p + 1).toNat p hp hkp (by omega) h1).2.2
     omega
theorem metF_some (hP:Pl ts.length P) (h:TT ts P T) {k:Nat} (hk:2 * ts.length ≤ k):∀ (l:List Int) (m:Int),(∀ p ∈ l,inB ts.length p = true) → inB ts.length m = true → 0 ≤ tp T m →
 ∃ r,metF T P k m l = some r ∧ inB ts.length r = true ∧ 0 ≤ tp T r ∧ tp P r ≤ tp P m ∧ (∀ p ∈ l,0 ≤ tp T p → tp P r ≤ tp P p) ∧ (∀ a,Dm ts a m → (∀ p ∈ l,0 ≤ tp T p → Dm ts a p) → Dm ts a r) ∧ (∀ q,LK ts T q → DomK ts q r m ∧ ∀ p ∈ l,0 ≤ tp T p → DomK ts q r p):=by
 intro l
 induction l with
 | nil=>intro m _ hm hkm;exact ⟨m,by rw [metF],hm,hkm,Int.le_refl _,by simp,fun a h1 _=>h1,fun q _=>⟨DomK.refl q m,by simp⟩⟩
 | cons p l ih=>
   intro m hl hm hkm
   have hp:=hl p (by simp)
   have hl':∀ p ∈ l,inB ts.length p = true:=fun x hx=>hl x (by simp [hx])
   rw [metF,h.len,hp,if_pos rfl]
   by_cases hn:T.getD p.toNat 0 < 0
   ·rw [if_pos hn]
    have hn':¬ 0 ≤ tp T p:=by show ¬ 0 ≤ T.getD p.toNat 0;omega
    obtain ⟨r,e1,e2,e3,e4,e5,e6,e7⟩:=ih m hl' hm hkm
    refine ⟨r,e1,e2,e3,e4,fun x hx hk=>?_,fun a h1 hh=>e6 a h1 (fun x hx hk=>hh x (by simp [hx]) hk),fun q hq=>⟨(e7 q hq).1,fun x hx hk=>?_⟩⟩
    ·rcases List.mem_cons.1 hx with rfl | hx
     ·exact absurd hk hn'
     ·exact e5 x hx hk
    ·rcases List.mem_cons.1 hx with rfl | hx
     ·exact absurd hk hn'
     ·exact (e7 q hq).2 x hx hk
   ·rw [if_neg hn]
    have hkp:0 ≤ tp T p:=by show 0 ≤ T.getD p.toNat 0;omega
    have m0:=(inB_iff hm).1
    rw [if_neg (by omega)]
    have rp:=hP.range p hp
    have rm:=hP.range m hm
    obtain ⟨r1,c1,c2,c3,c4,c5,c6,c7⟩:=climb_ok hP h k p m hp hkp hm hkm (by omega)
    rw [c1]
    obtain ⟨r,e1,e2,e3,e4,e5,e6,e7⟩:=ih r1 hl' c2 c3
    refine ⟨r,e1,e2,e3,by omega,fun x hx hk=>?_,fun a h1 hh=>e6 a (c6 a (hh p (by simp) hkp) h1) (fun x hx hk=>hh x (by simp [hx]) hk),fun q hq=>⟨(e7 q hq).1.trans (c7 q hq).2,fun x hx hk=>?_⟩⟩
    ·rcases List.mem_cons.1 hx with rfl | hx
     ·omega
     ·exact e5 x hx hk
    ·rcases List.mem_cons.1 hx with rfl | hx
     ·exact (e7 q hq).1.trans (c7 q hq).1
     ·exact (e7 q hq).2 x hx hk
theorem metF_start (hP:Pl ts.length P) (h:TT ts P T) {k:Nat} (hk:2 * ts.length ≤ k) (hk1:0 < k):∀ (l:List Int),(∀ p ∈ l,inB ts.length p = true) → (∃ p ∈ l,0 ≤ tp T p) →
 ∃ r,metF T P k (-1) l = some r ∧ inB ts.length r = true ∧ 0 ≤ tp T r ∧ (∀ p ∈ l,0 ≤ tp T p → tp P r ≤ tp P p) ∧ (∀ a,(∀ p ∈ l,0 ≤ tp T p → Dm ts a p) → Dm ts a r) ∧ (∀ q,LK ts T q → ∀ p ∈ l,0 ≤ tp T p → DomK ts q r p):=by
 intro l
 induction l with
 | nil=>rintro _ ⟨p,hp,_⟩;cases hp
 | cons p l ih=>
   intro hl hex
   have hp:=hl p (by simp)
   have hl':∀ p ∈ l,inB ts.length p = true:=fun x hx=>hl x (by simp [hx])
   rw [metF,h.len,hp,if_pos rfl]
   by_cases hn:T.getD p.toNat 0 < 0
   ·rw [if_pos hn]
    have hn':¬ 0 ≤ tp T p:=by show ¬ 0 ≤ T.getD p.toNat 0;omega
    obtain ⟨x,hx,hkx⟩:=hex
    obtain ⟨r,e1,e2,e3,e5,e6,e7⟩:=ih hl' ⟨x,by
     rcases List.mem_cons.1 hx with rfl | hx
     ·exact absurd hkx hn'
     ·exact hx,hkx⟩
    refine ⟨r,e1,e2,e3,fun x hx hk=>?_,fun a hh=>e6 a (fun x hx hk=>hh x (by simp [hx]) hk),fun q hq x hx hk=>?_⟩
    ·rcases List.mem_cons.1 hx with rfl | hx
     ·exact absurd hk hn'
     ·exact e5 x hx hk
    ·rcases List.mem_cons.1 hx with rfl | hx
     ·exact absurd hk hn'
     ·exact e7 q hq x hx hk
   ·rw [if_neg hn]
    have hkp:0 ≤ tp T p:=by show 0 ≤ T.getD p.toNat 0;omega
    obtain ⟨k1,rfl⟩:∃ k1,k = k1 + 1:=⟨k - 1,by omega⟩
    rw [if_pos (by omega),climb,if_pos rfl]
    obtain ⟨r,e1,e2,e3,e4,e5,e6,e7⟩:=metF_some hP h hk l p hl' hp hkp
    refine ⟨r,e1,e2,e3,fun x hx hk=>?_,fun a hh=>e6 a (hh p (by simp) hkp) (fun x hx hk=>hh x (by simp [hx]) hk),fun q hq x hx hk=>?_⟩
    ·rcases List.mem_cons.1 hx with rfl | hx
     ·exact e4
     ·exact e5 x hx hk
    ·rcases List.mem_cons.1 hx with rfl | hx
     ·exact (e7 q hq).1
     ·exact (e7 q hq).2 x hx hk
theorem WayK.inB {out:Int} (hg:goodB ts = true):∀ {k x},WayK ts out k x → inB ts.length x = true
 | 0,x,h=>by obtain ⟨rfl,_⟩:=h;unfold goodB at hg;simp only [Bool.and_eq_true,decide_eq_true_eq] at hg;simp [Go.Proofs.Ytgbeliajhccndaa.inB];omega
 | k + 1,x,.inl h=>by obtain ⟨rfl,_⟩:=h;unfold goodB at hg;simp only [Bool.and_eq_true,decide_eq_true_eq] at hg;simp [Go.Proofs.Ytgbeliajhccndaa.inB];omega
 | k + 1,x,.inr ⟨p,hp,he,_⟩=>goodB_row hg p (hp.inB hg) x he
structure Ps (ts:List (List Int)) (P:List Int) (RF:List (List Int)) (LT:List Int):Prop where
 good:goodB ts = true
 pl:Pl ts.length P
 preds:∀ b,inB ts.length b = true → ∀ p,p ∈ RF.getD b.toNat [] ↔ inB ts.length p = true ∧ Ed ts p b
 way:∀ x,inB ts.length x = true → Way ts (-1) x
 tail:∀ x,x ∈ LT ↔ inB ts.length x = true ∧ x ≠ 0
 par:∀ i,i < LT.length → ∃ p,(p = 0 ∨ ∃ j,j < i ∧ p = LT.getD j 0) ∧ Ed ts p (LT.getD i 0) ∧ tp P p < tp P (LT.getD i 0)
theorem TT.set (hs:∀ b,inB ts.length b = true → True) (h:TT ts P T) {b r:Int} (hb:inB ts.length b = true) (b0:b ≠ 0) (hr:inB ts.length r = true) (hk:0 ≤ tp T r) (hp:tp P r < tp P b) (hj:∀ a,a ≠ b → Dm ts a b → Dm ts a r):TT ts P (T.set b.toNat r):=by
 have hbT:inB T.length b = true:=by rw [h.len];exact hb
 have hrb:r ≠ b:=fun e=>by subst e;omega
 have r0:=(inB_iff hr).1
 refine ⟨by simp [h.len],?_,fun x hx x0 hkx=>?_,fun x hx x0 hkx a ha hd=>?_⟩
 ·rw [tp_set hbT (by omega),if_neg (fun e=>b0 e.symm)];exact h.z
 ·rw [tp_set hbT (inB_iff hx).1] at hkx ⊢
  by_cases e:x = b
  ·subst e
   rw [if_pos rfl]
   refine ⟨hr,?_,hp⟩
   rw [tp_set hbT r0,if_neg hrb];exact hk
  ·rw [if_neg e] at hkx ⊢
   obtain ⟨k1,k2,k3⟩:=h.kn x hx x0 hkx
   refine ⟨k1,?_,k3⟩
   rw [tp_set hbT (inB_iff k1).1]
   split
   ·exact r0
   ·exact k2
 ·rw [tp_set hbT (inB_iff hx).1] at hkx ⊢
  by_cases e:x = b
  ·subst e
   rw [if_pos rfl]
   exact hj a ha hd
  ·rw [if_neg e] at hkx ⊢
   exact h.jj x hx x0 hkx a ha hd
theorem step_ok {RF:List (List Int)} {LT:List Int} (hs:Ps ts P RF LT) (h:TT ts P T) {K:Nat} (hK:2 * ts.length ≤ K) (hK1:0 < K) {b:Int} (hb:inB ts.length b = true) (b0:b ≠ 0) (hex:∃ p,0 ≤ tp T p ∧ Ed ts p b ∧ inB ts.length p = true ∧ tp P p < tp P b) :
 ∃ r,metF T P K (-1) (RF.getD b.toNat []) = some r ∧ inB ts.length r = true ∧ 0 ≤ tp T r ∧ tp P r < tp P b ∧ (∀ a,a ≠ b → Dm ts a b → Dm ts a r) ∧ (∀ q,LK ts T q → (q = 0 ∨ ∀ x,inB ts.length x = true → 0 ≤ tp T x) → DomK ts (q + 1) r b):=by
 obtain ⟨p,hp1,hp2,hp3,hp4⟩:=hex
 have hpm:p ∈ RF.getD b.toNat []:=(hs.preds b hb p).2 ⟨hp3,hp2⟩
 obtain ⟨r,e1,e2,e3,e5,e6,e7⟩:=metF_start hs.pl h hK hK1 (RF.getD b.toNat []) (fun x hx=>((hs.preds b hb x).1 hx).1) ⟨p,hpm,hp1⟩
 refine ⟨r,e1,e2,e3,by have:=e5 p hpm hp1;omega,fun a ha hd=>e6 a (fun x hx _=>hd.pred ha ((hs.preds b hb x).1 hx).2),fun q hq hall hw=>?_⟩
 rcases hw with ⟨h0,_⟩ | ⟨x,hx,he,_⟩
 ·exact b0 h0
 ·have hxB:=hx.inB hs.good
  refine e7 q hq x ((hs.preds b hb x).2 ⟨hxB,he⟩) ?_ hx
  rcases hall with rfl | hall
  ·obtain ⟨rfl,_⟩:=hx
   rw [h.z];omega
  ·exact hall x hxB
theorem pass_ok {RF:List (List Int)} {LT:List Int} (hs:Ps ts P RF LT) {K:Nat} (hK:2 * ts.length ≤ K) (hK1:0 < K) {q:Nat} :
 ∀ (l:List Int) (i:Nat) (T:List Int) (c:Bool),l = LT.drop i → TT ts P T → LK ts T q → (q = 0 ∨ ∀ x,inB ts.length x = true → 0 ≤ tp T x) → (∀ j,j < i → j < LT.length → 0 ≤ tp T (LT.getD j 0) ∧ DomK ts (q + 1) (tp T (LT.getD j 0)) (LT.getD j 0)) →
 ∃ T2 c2,passF P RF K T c l = some (T2,c2) ∧ TT ts P T2 ∧ LK ts T2 (q + 1) ∧ (∀ x,inB ts.length x = true → 0 ≤ tp T2 x) ∧ (c2 = false → c = false ∧ T2 = T):=by
 intro l
 induction l with
 | nil=>
   intro i T c hl hT hq hall hdone
   have hlen:LT.length ≤ i:=by
    have:=congrArg List.length hl;simp at this;omega
   have hd:∀ x,inB ts.length x = true → x ≠ 0 → 0 ≤ tp T x ∧ DomK ts (q + 1) (tp T x) x:=by
    intro x hx x0
    obtain ⟨j,hj,e⟩:=List.mem_iff_getElem.1 ((hs.tail x).2 ⟨hx,x0⟩)
    have:=hdone j (by omega) hj
    rwa [show LT.getD j 0 = x from by simp [List.getD_eq_getElem?_getD,hj,e]] at this
   refine ⟨T,c,by rw [passF],hT,fun x hx x0 _=>(hd x hx x0).2,fun x hx=>?_,fun h=>⟨h,rfl⟩⟩
   by_cases e:x = 0
   ·subst e;rw [hT.z];omega
   ·exact (hd x hx e).1
 | cons b l ih=>
   intro i T c hl hT hq hall hdone
   have hi:i < LT.length:=by
    have:=congrArg List.length hl;simp at this;omega
   rw [List.drop_eq_getElem_cons hi] at hl
   injection hl with hb1 hl
   have hbi:LT.getD i 0 = b:=by simp [List.getD_eq_getElem?_getD,hi,hb1]
   obtain ⟨hb,b0⟩:=(hs.tail b).1 (by rw [← hbi];simp [List.getD_eq_getElem?_getD,hi])
   have hg0:inB ts.length (0:Int) = true:=WayK.inB (out:=-1) hs.good (WayK.zero (by omega) 0)
   obtain ⟨p,hp1,hp2,hp3⟩:=hs.par i hi
   rw [hbi] at hp2 hp3
   have hpk:0 ≤ tp T p ∧ inB ts.length p = true:=by
    rcases hp1 with rfl | ⟨j,hj,rfl⟩
    ·exact ⟨by rw [hT.z];omega,hg0⟩
    ·have hjl:j < LT.length:=by omega
     exact ⟨(hdone j hj hjl).1,((hs.tail _).1 (by simp [List.getD_eq_getElem?_getD,hjl]:LT.getD j 0 ∈ LT)).1⟩
   obtain ⟨r,e1,e2,e3,e4,e5,e6⟩:=step_ok hs hT hK hK1 hb b0 ⟨p,hpk.1,hp2,hpk.2,hp3⟩
   have e6:=e6 q hq hall
   rw [passF,e1]
   have hbT:inB T.length b = true:=by rw [hT.len];exact hb
   have hstep:∀ T',TT ts P T' → (∀ x,0 ≤ x → tp T' x = if x = b then r else tp T x) → LK ts T' q ∧ (q = 0 ∨ ∀ x,inB ts.length x = true → 0 ≤ tp T' x) ∧ (∀ j,j < i + 1 → j < LT.length → 0 ≤ tp T' (LT.getD j 0) ∧ DomK ts (q + 1) (tp T' (LT.getD j 0)) (LT.getD j 0)):=by
    intro T' hT' ht
    refine ⟨fun x hx x0 hk=>?_,hall.imp id (fun hh x hx=>?_),fun j hj hjl=>?_⟩
    ·rw [ht x (inB_iff hx).1] at hk ⊢
     by_cases e:x = b
     ·rw [if_pos e,e];exact fun hw=>e6 hw.up
     ·rw [if_neg e] at hk ⊢;exact hq x hx x0 hk
    ·rw [ht x (inB_iff hx).1]
     split
     ·exact (inB_iff e2).1
     ·exact hh x hx
    ·have hjx:0 ≤ LT.getD j 0:=(inB_iff ((hs.tail _).1 (by simp [List.getD_eq_getElem?_getD,hjl]:LT.getD j 0 ∈ LT)).1).1
     rw [ht _ hjx]
     by_cases e:LT.getD j 0 = b
     ·rw [if_pos e,e];exact ⟨(inB_iff e2).1,e6⟩
     ·rw [if_neg e]
      refine hdone j ?_ hjl
      by_cases hji:j = i
      ·subst hji;exact absurd hbi e
      ·omega
   by_cases hm:r = T.getD b.toNat 0
   ·simp only [if_pos hm]
    have ht:∀ x,0 ≤ x → tp T x = if x = b then r else tp T x:=fun x hx=>by
     split
     ·rename_i e;rw [e];exact hm.symm
     ·rfl
    obtain ⟨g1,g2,g3⟩:=hstep T hT ht
    exact ih (i + 1) T c hl hT g1 g2 g3
   ·simp only [if_neg hm]
    have hT':=hT.set (fun _ _=>trivial) hb b0 e2 e3 e4 e5
    obtain ⟨g1,g2,g3⟩:=hstep _ hT' (fun x hx=>tp_set hbT hx)
    obtain ⟨T2,c2,f1,f2,f3,f4,f5⟩:=ih (i + 1) (T.set b.toNat r) true hl hT' g1 g2 g3
    exact ⟨T2,c2,f1,f2,f3,f4,fun h=>by have:=(f5 h).1;cases this⟩
theorem pass_fix {RF:List (List Int)} {LT:List Int} (hs:Ps ts P RF LT) {K:Nat} (hK:2 * ts.length ≤ K) (hK1:0 < K) (h:TT ts P T) (hall:∀ x,inB ts.length x = true → 0 ≤ tp T x) (hL:∀ q,LK ts T q) (c:Bool) :
 ∀ (l:List Int) (i:Nat),l = LT.drop i → passF P RF K T c l = some (T,c):=by
 intro l
 induction l with
 | nil=>intro i _;rw [passF]
 | cons b l ih=>
   intro i hl
   have hi:i < LT.length:=by
    have:=congrArg List.length hl;simp at this;omega
   rw [List.drop_eq_getElem_cons hi] at hl
   injection hl with hb1 hl
   have hbi:LT.getD i 0 = b:=by simp [List.getD_eq_getElem?_getD,hi,hb1]
   obtain ⟨hb,b0⟩:=(hs.tail b).1 (by rw [← hbi];simp [List.getD_eq_getElem?_getD,hi])
   have hg0:inB ts.length (0:Int) = true:=WayK.inB (out:=-1) hs.good (WayK.zero (by omega) 0)
   obtain ⟨p,hp1,hp2,hp3⟩:=hs.par i hi
   rw [hbi] at hp2 hp3
   have hpB:inB ts.length p = true:=by
    rcases hp1 with rfl | ⟨j,hj,rfl⟩
    ·exact hg0
    ·have hjl:j < LT.length:=by omega
     exact ((hs.tail _).1 (by simp [List.getD_eq_getElem?_getD,hjl]:LT.getD j 0 ∈ LT)).1
   obtain ⟨r,e1,e2,e3,e4,e5,e6⟩:=step_ok hs h hK hK1 hb b0 ⟨p,hall p hpB,hp2,hpB,hp3⟩
   obtain ⟨k1,k2,k3⟩:=h.kn b hb b0 (hall b hb)
   have d1:Dm ts r b:=Dm.all.2 fun q hw=>(e6 q (hL q) (.inr hall)) hw.up
   have d2:Dm ts (tp T b) b:=Dm.all.2 fun q=>hL q b hb b0 (hall b hb)
   have n1:r ≠ b:=fun e=>by rw [e] at e4;omega
   have n2:tp T b ≠ b:=fun e=>by rw [e] at k3;omega
   have hrt:r = tp T b:=Dm.anti (hs.way _ k1) (h.jj b hb b0 (hall b hb) r n1 d1) (e5 _ n2 d2)
   rw [passF,e1]
   simp only [if_pos (show r = T.getD b.toNat 0 from hrt)]
   exact ih (i + 1) hl
theorem treeF_ok {RF:List (List Int)} {LT:List Int} (hs:Ps ts P RF LT) {K:Nat} (hK:2 * ts.length ≤ K) (hK1:0 < K):∀ (k q:Nat) (T:List Int),TT ts P T → LK ts T q → (q = 0 ∨ ∀ x,inB ts.length x = true → 0 ≤ tp T x) → ts.length + 2 ≤ k + q → 0 < k →
 ∃ TR,treeF P RF K LT k T = some TR ∧ TT ts P TR ∧ (∀ x,inB ts.length x = true → 0 ≤ tp TR x) ∧ ∀ q,LK ts TR q:=by
 intro k
 induction k with
 | zero=>intro q T _ _ _ _ h;omega
 | succ k ih=>
   intro q T hT hq hall hk _
   rw [treeF]
   obtain ⟨T2,c2,f1,f2,f3,f4,f5⟩:=pass_ok hs hK hK1 LT 0 T false (by simp) hT hq hall (fun j hj=>by omega)
   rw [f1]
   cases c2 with
   | false=>
     obtain ⟨_,rfl⟩:=f5 rfl
     refine ⟨T2,rfl,f2,f4,fun q=>?_⟩
     have hup:∀ q,LK ts T2 q → LK ts T2 (q + 1):=by
      intro q hq
      obtain ⟨T3,c3,g1,g2,g3,g4,g5⟩:=pass_ok hs hK hK1 LT 0 T2 false (by simp) f2 hq (.inr f4) (fun j hj=>by omega)
      rw [f1] at g1
      injection g1 with g1
      injection g1 with g1 _
      rw [g1]
      exact g3
     induction q with
     | zero=>exact fun x hx x0 _=>fun hw=>x0 hw.1
     | succ q ihq=>exact hup q ihq
   | true=>
     by_cases hqn:ts.length ≤ q + 1
     ·have hinf:∀ m,LK ts T2 m:=fun m x hx x0 hk=>Dm.all.1 (Dm.of_n hs.good (fun hw=>f3 x hx x0 hk (hw.le hqn))) m
      by_cases hk0:k = 0
      ·subst hk0
       exfalso
       have hinf0:∀ m,LK ts T m:=fun m x hx x0 hk2=>Dm.all.1 (Dm.of_n hs.good (fun hw=>hq x hx x0 hk2 (hw.le (by omega)))) m
       have hallT:∀ x,inB ts.length x = true → 0 ≤ tp T x:=by
        rcases hall with rfl | h
        ·omega
        ·exact h
       have:=pass_fix hs hK hK1 hT hallT hinf0 false LT 0 (by simp)
       rw [f1] at this
       injection this with this
       injection this with _ this
       cases this
      ·exact ih (q + 1) T2 f2 f3 (.inr f4) (by omega) (by omega)
     ·exact ih (q + 1) T2 f2 f3 (.inr f4) (by omega) (by omega)
end
end Go.Proofs.Ytgbeliajhccndaa
end
section
set_option linter.unusedVariables false
set_option linter.unusedSimpArgs false
namespace Go.Proofs.Ytgbeliajhccndaa
theorem placeF_out:∀ (l:List Int) (P:List Int) (i:Nat) (x:Int),0 ≤ x → (∀ b ∈ l,0 ≤ b) → x ∉ l → tp (placeF P i l) x = tp P x
 | [],P,i,x,_,_,_=>rfl
 | b :: r,P,i,x,hx,hl,hn=>by
   have hb:=hl b (by simp)
   rw [placeF,placeF_out r _ _ x hx (fun c hc=>hl c (by simp [hc])) (fun h=>hn (by simp [h]))]
   unfold tp
   have hne:x ≠ b:=fun e=>hn (by simp [e])
   rw [List.getD_eq_getElem?_getD,List.getElem?_set,if_neg (by omega),← List.getD_eq_getElem?_getD]
theorem placeF_at:∀ (l:List Int) (P:List Int) (i j:Nat),l.Nodup → (∀ b ∈ l,inB P.length b = true) → j < l.length → tp (placeF P i l) (l.getD j 0) = ((i + j:Nat):Int)
 | [],P,i,j,_,_,h=>by simp at h
 | b :: r,P,i,0,hn,hl,h=>by
   rw [List.nodup_cons] at hn
   obtain ⟨b0,b1⟩:=inB_iff (hl b (by simp))
   show tp (placeF (P.set b.toNat (i:Int)) (i + 1) r) b = _
   rw [placeF_out r _ _ b b0 (fun c hc=>(inB_iff (hl c (by simp [hc]))).1) hn.1]
   rw [tp_set (hl b (by simp)) b0,if_pos rfl]
   simp
 | b :: r,P,i,j + 1,hn,hl,h=>by
   rw [List.nodup_cons] at hn
   rw [List.length_cons] at h
   have:=placeF_at r (P.set b.toNat (i:Int)) (i + 1) j hn.2 (fun c hc=>by rw [List.length_set];exact hl c (by simp [hc])) (by omega)
   rw [placeF]
   rw [show (b :: r).getD (j + 1) 0 = r.getD j 0 from by simp,this]
   omega
theorem addAll_len:∀ (l:List Int) (x:Int) (rs:List (List Int)),(addAll x rs l).length = rs.length
 | [],x,rs=>rfl
 | c :: r,x,rs=>by rw [addAll,addAll_len];unfold addAt;simp
theorem addAt_mem {rs:List (List Int)} {c d:Nat} {x y:Int} (hc:c < rs.length):y ∈ (addAt rs c x).getD d [] ↔ y ∈ rs.getD d [] ∨ (y = x ∧ d = c):=by
 unfold addAt
 rw [List.getD_eq_getElem?_getD,List.getElem?_set]
 by_cases e:c = d
 ·subst e
  rw [if_pos rfl,if_pos hc]
  simp
 ·rw [if_neg e,← List.getD_eq_getElem?_getD]
  constructor
  ·exact .inl
  ·rintro (h | ⟨_,h⟩)
   ·exact h
   ·exact absurd h.symm e
theorem addAll_mem {n:Nat}:∀ (l:List Int) (x:Int) (rs:List (List Int)) (c y:Int),rs.length = n → (∀ b ∈ l,inB n b = true) → 0 ≤ c → (y ∈ (addAll x rs l).getD c.toNat [] ↔ y ∈ rs.getD c.toNat [] ∨ (y = x ∧ c ∈ l))
 | [],x,rs,c,y,_,_,_=>by simp [addAll]
 | b :: r,x,rs,c,y,hn,hl,hc=>by
   obtain ⟨b0,b1⟩:=inB_iff (hl b (by simp))
   rw [addAll,addAll_mem (n:=n) r x _ c y (by unfold addAt;simp [hn]) (fun d hd=>hl d (by simp [hd])) hc,addAt_mem (by omega)]
   constructor
   ·rintro ((h | ⟨h1,h2⟩) | ⟨h1,h2⟩)
    ·exact .inl h
    ·exact .inr ⟨h1,by simp;left;omega⟩
    ·exact .inr ⟨h1,by simp [h2]⟩
   ·rintro (h | ⟨h1,h2⟩)
    ·exact .inl (.inl h)
    ·rcases List.mem_cons.1 h2 with rfl | h2
     ·exact .inl (.inr ⟨h1,rfl⟩)
     ·exact .inr ⟨h1,h2⟩
theorem predsF_mem {ts:List (List Int)} (hg:goodB ts = true):∀ (l:List Int) (rs:List (List Int)) (c y:Int),rs.length = ts.length → (∀ b ∈ l,inB ts.length b = true) → 0 ≤ c → (y ∈ (predsF ts rs l).getD c.toNat [] ↔ y ∈ rs.getD c.toNat [] ∨ (y ∈ l ∧ Ed ts y c))
 | [],rs,c,y,_,_,_=>by simp [predsF]
 | b :: r,rs,c,y,hn,hl,hc=>by
   have hb:=hl b (by simp)
   rw [predsF,predsF_mem hg r _ c y (by rw [addAll_len,hn]) (fun d hd=>hl d (by simp [hd])) hc,addAll_mem (n:=ts.length) _ _ _ _ _ hn (goodB_row hg b hb) hc]
   constructor
   ·rintro ((h | ⟨h1,h2⟩) | ⟨h1,h2⟩)
    ·exact .inl h
    ·subst h1;exact .inr ⟨by simp,h2⟩
    ·exact .inr ⟨by simp [h1],h2⟩
   ·rintro (h | ⟨h1,h2⟩)
    ·exact .inl (.inl h)
    ·rcases List.mem_cons.1 h1 with rfl | h1
     ·exact .inl (.inr ⟨rfl,h2⟩)
     ·exact .inr ⟨h1,h2⟩
theorem nodup_le:∀ (n:Nat) (l:List Nat),l.Nodup → (∀ x ∈ l,x < n) → l.length ≤ n
 | 0,l,_,h=>by
   cases l with
   | nil=>simp
   | cons a r=>have:=h a (by simp);omega
 | n + 1,l,hn,h=>by
   have h1:=nodup_le n (l.erase n) (hn.erase n) (fun x hx=>by
    have h2:=h x (List.mem_of_mem_erase hx)
    have h3:=((List.Nodup.mem_erase_iff hn).1 hx).1
    omega)
   rw [List.length_erase] at h1
   split at h1 <;> omega
theorem ps_ok {ts:List (List Int)} {line:List Int} (hg:goodB ts = true) (hl:Line ts line) (hr:∀ x,inB ts.length x = true → Way ts (-1) x) :
 Ps ts (placeF (List.replicate ts.length 0) 0 line) (predsF ts (List.replicate ts.length []) line) line.tail:=by
 obtain ⟨t,e⟩:=hl.head
 have hin:∀ b ∈ line,inB (List.replicate ts.length (0:Int)).length b = true:=fun b hb=>by rw [List.length_replicate];exact (hl.way b hb).1
 have hat:=fun j hj=>placeF_at line (List.replicate ts.length 0) 0 j hl.nodup hin hj
 have hmem:∀ x,inB ts.length x = true → ∃ j,j < line.length ∧ line.getD j 0 = x:=fun x hx=>by
  obtain ⟨j,hj,e⟩:=List.mem_iff_getElem.1 (hl.all (hr x hx))
  exact ⟨j,hj,by simp [List.getD_eq_getElem?_getD,hj,e]⟩
 have hln:line.length ≤ ts.length:=by
  have h1:(line.map Int.toNat).Nodup:=by
   refine (List.pairwise_map).2 (hl.nodup.imp_of_mem ?_)
   intro a b ha hb hab e2
   have:=(inB_iff (hl.way a ha).1).1
   have:=(inB_iff (hl.way b hb).1).1
   omega
  have h2:∀ x ∈ line.map Int.toNat,x < ts.length:=by
   intro x hx
   obtain ⟨b,hb,rfl⟩:=List.mem_map.1 hx
   have:=inB_iff (hl.way b hb).1
   omega
  have:=nodup_le _ _ h1 h2
  simpa using this
 refine ⟨hg,⟨fun x y hx hy hxy=>?_,fun x hx=>?_,?_⟩,fun b hb p=>?_,hr,fun x=>?_,fun i hi=>?_⟩
 ·obtain ⟨j,hj,ej⟩:=hmem x hx
  obtain ⟨j2,hj2,ej2⟩:=hmem y hy
  rw [← ej,← ej2,hat j hj,hat j2 hj2] at hxy
  have:j = j2:=by omega
  rw [← ej,← ej2,this]
 ·obtain ⟨j,hj,ej⟩:=hmem x hx
  rw [← ej,hat j hj]
  omega
 ·have:=hat 0 (by rw [e];simp)
  rw [e] at this ⊢
  simpa using this
 ·rw [predsF_mem hg line _ b p (by simp) (fun c hc=>(hl.way c hc).1) (inB_iff hb).1]
  constructor
  ·rintro (h | ⟨h1,h2⟩)
   ·simp [List.getD_eq_getElem?_getD,List.getElem?_replicate] at h
    split at h <;> simp at h
   ·exact ⟨(hl.way p h1).1,h2⟩
  ·rintro ⟨h1,h2⟩
   exact .inr ⟨hl.all (hr p h1),h2⟩
 ·have hnd:=hl.nodup
  rw [e] at hnd ⊢
  rw [List.nodup_cons] at hnd
  simp only [List.tail_cons]
  constructor
  ·intro hx
   exact ⟨(hl.way x (by rw [e];simp [hx])).1,fun e0=>hnd.1 (e0 ▸ hx)⟩
  ·rintro ⟨h1,h2⟩
   have:=hl.all (hr x h1)
   rw [e] at this
   rcases List.mem_cons.1 this with h | h
   ·exact absurd h h2
   ·exact h
 ·have hi':i + 1 < line.length:=by rw [e] at hi ⊢;simpa using hi
  have ht:∀ j,line.tail.getD j 0 = line.getD (j + 1) 0:=fun j=>by rw [e];simp
  obtain ⟨j,hj,he⟩:=hl.par (i + 1) (by omega) hi'
  refine ⟨line.getD j 0,?_,by rw [ht];exact he,by rw [ht,hat j (by omega),hat (i + 1) hi'];omega⟩
  cases j with
  | zero=>left;rw [e];rfl
  | succ j=>right;exact ⟨j,by omega,(ht j).symm⟩
structure Idom (ts:List (List Int)) (T:List Int):Prop where
 len:T.length = ts.length
 root:tp T 0 = -1
 up:∀ x,inB ts.length x = true → x ≠ 0 → inB ts.length (tp T x) = true ∧ Dm ts (tp T x) x ∧ ∀ a,a ≠ x → Dm ts a x → Dm ts a (tp T x)
 rank:∃ R:Int → Nat,∀ x,inB ts.length x = true → x ≠ 0 → R (tp T x) < R x
theorem treeOf_ok {ts:List (List Int)} {K:Nat} {line:List Int} (hg:goodB ts = true) (hl:Line ts line) (hlo:lineOf ts K = some line) (hr:∀ x,inB ts.length x = true → Way ts (-1) x) (hK:2 * ts.length + 2 ≤ K):∃ T,treeOf ts K = some T ∧ Idom ts T:=by
 have hn:0 < ts.length:=by unfold goodB at hg;simp only [Bool.and_eq_true,decide_eq_true_eq] at hg;exact hg.2
 have hs:=ps_ok hg hl hr
 generalize hP:placeF (List.replicate ts.length 0) 0 line = P at hs
 generalize hRF:predsF ts (List.replicate ts.length []) line = RF at hs
 have hz:∀ x,0 ≤ x → tp ((List.replicate ts.length (-1)).set 0 0) x = if x = 0 then 0 else if x < ts.length then -1 else 0:=by
  intro x hx
  have:=tp_set (T:=List.replicate ts.length (-1)) (b:=0) (x:=x) (r:=0) (by simp [inB];omega) hx
  rw [show (0:Int).toNat = 0 from rfl] at this
  rw [this]
  by_cases e:x = 0
  ·rw [if_pos e,if_pos e]
  ·rw [if_neg e,if_neg e]
   unfold tp
   simp [List.getD_eq_getElem?_getD,List.getElem?_replicate]
   by_cases h:x < ts.length
   ·rw [if_pos (by omega),if_pos h];rfl
   ·rw [if_neg (by omega),if_neg h];rfl
 have hT0:TT ts P ((List.replicate ts.length (-1)).set 0 0):=by
  refine ⟨by simp,by rw [hz 0 (by omega)];simp,fun x hx x0 hk=>?_,fun x hx x0 hk=>?_⟩ <;>
   ·rw [hz x (inB_iff hx).1,if_neg x0,if_pos (inB_iff hx).2] at hk
    omega
 have hL0:LK ts ((List.replicate ts.length (-1)).set 0 0) 0:=fun x hx x0 _ hw=>x0 hw.1
 obtain ⟨TR,h1,h2,h3,h4⟩:=treeF_ok hs (K:=K) (by omega) (by omega) K 0 _ hT0 hL0 (.inl rfl) (by omega) (by omega)
 refine ⟨TR.set 0 (-1),by unfold treeOf;rw [hlo];simp only [Option.bind_some];rw [hP,hRF,h1];rfl,?_⟩
 have hst:∀ x,0 ≤ x → tp (TR.set 0 (-1)) x = if x = 0 then -1 else tp TR x:=fun x hx=>by
  have:=tp_set (T:=TR) (b:=0) (x:=x) (r:=-1) (by rw [h2.len];simp [inB];omega) hx
  rwa [show (0:Int).toNat = 0 from rfl] at this
 refine ⟨by simp [h2.len],by rw [hst 0 (by omega),if_pos rfl],fun x hx x0=>?_,⟨fun x=>(tp P x).toNat,fun x hx x0=>?_⟩⟩
 ·rw [hst x (inB_iff hx).1,if_neg x0]
  exact ⟨(h2.kn x hx x0 (h3 x hx)).1,Dm.all.2 fun q=>h4 q x hx x0 (h3 x hx),h2.jj x hx x0 (h3 x hx)⟩
 ·rw [hst x (inB_iff hx).1,if_neg x0]
  obtain ⟨k1,k2,k3⟩:=h2.kn x hx x0 (h3 x hx)
  have:=(hs.pl.range _ k1).1
  show (tp P (tp TR x)).toNat < (tp P x).toNat
  omega
inductive Up (T:List Int) (a:Int):Int → Prop
 | here:Up T a a
 | next {x:Int}:x ≠ 0 → Up T a (tp T x) → Up T a x
theorem Up.dm {ts:List (List Int)} {T:List Int} (h:Idom ts T) {a x:Int} (hu:Up T a x):inB ts.length x = true → Dm ts a x ∧ inB ts.length a = true:=by
 induction hu with
 | here=>
   intro hx
   exact ⟨Dm.refl a,hx⟩
 | next x0 _ ih=>
   intro hx
   obtain ⟨h1,h2,_⟩:=h.up _ hx x0
   exact ⟨(ih h1).1.trans h2,(ih h1).2⟩
theorem Dm.up {ts:List (List Int)} {T:List Int} (h:Idom ts T) {a:Int}:∀ {x:Int},inB ts.length x = true → Dm ts a x → Up T a x:=by
 obtain ⟨R,hR⟩:=h.rank
 have key:∀ (N:Nat) (x:Int),R x < N → inB ts.length x = true → Dm ts a x → Up T a x:=by
  intro N
  induction N with
  | zero=>intro x h;omega
  | succ N ih=>
    intro x hN hx hd
    by_cases e:a = x
    ·subst e;exact .here
    by_cases x0:x = 0
    ·subst x0;exact absurd hd.zero e
    obtain ⟨h1,h2,h3⟩:=h.up x hx x0
    have:=hR x hx x0
    exact .next x0 (ih _ (by omega) h1 (h3 a e hd))
 intro x hx hd
 exact key (R x + 1) x (by omega) hx hd
theorem up_iff {ts:List (List Int)} {T:List Int} (h:Idom ts T) {a x:Int} (hx:inB ts.length x = true):Up T a x ↔ Dm ts a x:=⟨fun hu=>(hu.dm h hx).1,Dm.up h hx⟩
end Go.Proofs.Ytgbeliajhccndaa
end
