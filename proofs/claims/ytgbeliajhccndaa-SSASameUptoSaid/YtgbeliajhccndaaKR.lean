/- Lemmas of this claim (TG,SX). -/
import Derived.Test.YtgbeliajhccndaaKO
import Derived.Test.YtgbeliajhccndaaKQ
section
set_option linter.unusedVariables false
set_option linter.unusedSimpArgs false
namespace Go.Proofs.Ytgbeliajhccndaa
theorem kidsF_mem {T:List Int} {N:Nat}:∀ (k b:Nat) (rs:List (List Int)),rs.length = N → (∀ i,b ≤ i → i < b + k → T.getD i 0 < (N:Int)) → ∀ (c:Nat) (y:Int),(y ∈ (kidsF T rs b k).getD c [] ↔ y ∈ rs.getD c [] ∨ ∃ i:Nat,b ≤ i ∧ i < b + k ∧ y = (i:Int) ∧ T.getD i 0 = (c:Int))
 | 0,b,rs,_,_,c,y=>by
   rw [kidsF]
   constructor
   ·exact .inl
   ·rintro (h | ⟨i,h1,h2,_⟩)
    ·exact h
    ·omega
 | k + 1,b,rs,hn,hT,c,y=>by
   have hb:=hT b (Nat.le_refl _) (by omega)
   rw [kidsF]
   have hlen:(if 0 ≤ T.getD b 0 then addAt rs (T.getD b 0).toNat (b:Int) else rs).length = N:=by
    split
    ·unfold addAt;simp [hn]
    ·exact hn
   rw [kidsF_mem k (b + 1) _ hlen (fun i h1 h2=>hT i (by omega) (by omega)) c y]
   by_cases h0:0 ≤ T.getD b 0
   ·rw [if_pos h0,addAt_mem (by omega)]
    constructor
    ·rintro ((h | ⟨h1,h2⟩) | ⟨i,h1,h2,h3,h4⟩)
     ·exact .inl h
     ·exact .inr ⟨b,Nat.le_refl _,by omega,h1,by omega⟩
     ·exact .inr ⟨i,by omega,by omega,h3,h4⟩
    ·rintro (h | ⟨i,h1,h2,h3,h4⟩)
     ·exact .inl (.inl h)
     ·by_cases e:i = b
      ·subst e;exact .inl (.inr ⟨h3,by omega⟩)
      ·exact .inr ⟨i,by omega,by omega,h3,h4⟩
   ·rw [if_neg h0]
    constructor
    ·rintro (h | ⟨i,h1,h2,h3,h4⟩)
     ·exact .inl h
     ·exact .inr ⟨i,by omega,by omega,h3,h4⟩
    ·rintro (h | ⟨i,h1,h2,h3,h4⟩)
     ·exact .inl h
     ·by_cases e:i = b
      ·subst e;omega
      ·exact .inr ⟨i,by omega,by omega,h3,h4⟩
theorem kidsF_nodup {T:List Int}:∀ (k b:Nat) (rs:List (List Int)),(∀ c,(rs.getD c []).Nodup ∧ ∀ y ∈ rs.getD c [],y < (b:Int)) → ∀ c,((kidsF T rs b k).getD c []).Nodup
 | 0,b,rs,h,c=>(h c).1
 | k + 1,b,rs,h,c=>by
   rw [kidsF]
   refine kidsF_nodup k (b + 1) _ (fun c=>?_) c
   split
   ·unfold addAt
    rw [List.getD_eq_getElem?_getD,List.getElem?_set]
    split
    ·split
     ·simp only [Option.getD_some]
      refine ⟨?_,fun y hy=>?_⟩
      ·rw [List.nodup_append]
       refine ⟨(h _).1,by simp,fun x hx y hy=>?_⟩
       simp at hy
       have:=(h _).2 x hx
       omega
      ·rcases List.mem_append.1 hy with hy | hy
       ·have:=(h _).2 y hy;omega
       ·simp at hy;omega
     ·simp
    ·rw [← List.getD_eq_getElem?_getD]
     exact ⟨(h c).1,fun y hy=>by have:=(h c).2 y hy;omega⟩
   ·exact ⟨(h c).1,fun y hy=>by have:=(h c).2 y hy;omega⟩
def StK (T:List Int):List Int → Prop
 | []=>True
 | [b]=>b = 0
 | b :: c :: r=>b ≠ 0 ∧ tp T b = c ∧ StK T (c :: r)
theorem StK.up {T:List Int}:∀ {st:List Int} {b:Int},StK T (b :: st) → ∀ x ∈ st,Up T x b
 | [],b,_,x,hx=>by cases hx
 | c :: r,b,⟨h0,h1,h2⟩,x,hx=>by
   rcases List.mem_cons.1 hx with rfl | hx
   ·exact .next h0 (by rw [h1];exact .here)
   ·exact .next h0 (by rw [h1];exact StK.up h2 x hx)
structure WI (ts:List (List Int)) (T:List Int) (n:Int) (F L:List Int) (kids:List (List Int)) (st:List Int):Prop where
 lf:F.length = ts.length
 ll:L.length = ts.length
 lk:kids.length = ts.length
 cnt:0 ≤ n ∧ ∀ x,inB ts.length x = true → 0 ≤ tp F x ∧ tp F x ≤ n
 chain:StK T st
 sin:∀ x ∈ st,inB ts.length x = true
 snd:st.Nodup
 grey:∀ x ∈ st.tail,tp F x ≠ 0
 upc:∀ x,inB ts.length x = true → tp F x ≠ 0 → x ≠ 0 → tp F (tp T x) ≠ 0
 blk:∀ y,inB ts.length y = true → y ≠ 0 → tp F (tp T y) ≠ 0 → tp T y ∉ st → tp F y ≠ 0 ∧ y ∉ st
 kin:∀ x,inB ts.length x = true → ∀ y ∈ kids.getD x.toNat [],inB ts.length y = true ∧ y ≠ 0 ∧ tp T y = x ∧ tp F y = 0 ∧ y ∉ st
 knd:∀ c,(kids.getD c []).Nodup
 kall:∀ y,inB ts.length y = true → y ≠ 0 → (tp F (tp T y) = 0 ∨ tp T y ∈ st) → y ∈ kids.getD (tp T y).toNat [] ∨ y ∈ st ∨ tp F y ≠ 0
 black:∀ x,inB ts.length x = true → tp F x ≠ 0 → x ∉ st → tp L x ≤ n ∧ ∀ y,inB ts.length y = true → tp F y ≠ 0 → (Up T x y ↔ tp F x ≤ tp F y ∧ tp F y ≤ tp L x)
 gr:∀ x ∈ st,tp F x ≠ 0 → ∀ y,inB ts.length y = true → tp F y ≠ 0 → (Up T x y ↔ tp F x ≤ tp F y)
 zero:(0:Int) ∈ st ∨ tp F 0 ≠ 0
section
variable {ts:List (List Int)} {T F L:List Int} {n:Int} {kids:List (List Int)} {st:List Int}
theorem WI.up_ne (h:WI ts T n F L kids st) (hI:Idom ts T) {x y:Int} (hu:Up T x y):inB ts.length y = true → tp F y ≠ 0 → tp F x ≠ 0:=by
 induction hu with
 | here=>exact fun _ h=>h
 | next y0 _ ih=>
   intro hy hn
   exact ih (hI.up _ hy y0).1 (h.upc _ hy hn y0)
theorem WI.up_blk (h:WI ts T n F L kids st) (hI:Idom ts T) {x y:Int} (hu:Up T x y) (hx:tp F x ≠ 0 ∧ x ∉ st):inB ts.length y = true → tp F y ≠ 0 ∧ y ∉ st:=by
 induction hu with
 | here=>exact fun _=>hx
 | next y0 _ ih=>
   intro hy
   obtain ⟨a,b⟩:=ih (hI.up _ hy y0).1
   exact h.blk _ hy y0 a b
theorem WI.visit (h:WI ts T n F L kids st) (hI:Idom ts T) {b:Int} {r:List Int} (hs:st = b :: r) :
 WI ts T (if F.getD b.toNat 0 = 0 then n + 1 else n) (if F.getD b.toNat 0 = 0 then F.set b.toNat (n + 1) else F) L kids st ∧ tp (if F.getD b.toNat 0 = 0 then F.set b.toNat (n + 1) else F) b ≠ 0:=by
 by_cases hw:F.getD b.toNat 0 = 0
 ·rw [if_pos hw,if_pos hw]
  have hb:inB ts.length b = true:=h.sin b (by rw [hs];simp)
  have hbF:inB F.length b = true:=by rw [h.lf];exact hb
  have hw':tp F b = 0:=hw
  have n0:=h.cnt.1
  have hbst:b ∈ st:=by rw [hs];simp
  have hset:∀ x,inB ts.length x = true → tp (F.set b.toNat (n + 1)) x = if x = b then n + 1 else tp F x:=fun x hx=>tp_set hbF (inB_iff hx).1
  have hne:∀ x,inB ts.length x = true → (tp (F.set b.toNat (n + 1)) x ≠ 0 ↔ x = b ∨ tp F x ≠ 0):=fun x hx=>by
   rw [hset x hx]
   split
   ·rename_i e;simp [e];omega
   ·rename_i e;simp [e]
  refine ⟨⟨by simp [h.lf],h.ll,h.lk,⟨by omega,fun x hx=>?_⟩,h.chain,h.sin,h.snd,fun x hx=>?_,fun x hx hn x0=>?_,fun y hy y0 hn hst=>?_,fun x hx y hy=>?_,h.knd,fun y hy y0 hc=>?_,fun x hx hn hst=>?_,fun x hx hn y hy hny=>?_,?_⟩,by rw [hset b hb,if_pos rfl];omega⟩
  ·rw [hset x hx]
   have:=h.cnt.2 x hx
   split <;> omega
  ·have hxs:x ∈ st:=List.mem_of_mem_tail hx
   exact (hne x (h.sin x hxs)).2 (.inr (h.grey x hx))
  ·have hp:=(hI.up x hx x0).1
   refine (hne _ hp).2 ?_
   rcases (hne x hx).1 hn with rfl | hn
   ·right
    have hc:=h.chain
    rw [hs] at hc
    cases r with
    | nil=>exact absurd hc x0
    | cons c r=>rw [hc.2.1];exact h.grey c (by rw [hs];simp)
   ·exact .inr (h.upc x hx hn x0)
  ·have hp:=(hI.up y hy y0).1
   have:tp F (tp T y) ≠ 0:=by
    rcases (hne _ hp).1 hn with e | hn
    ·exact absurd (e ▸ hbst) hst
    ·exact hn
   obtain ⟨a,c⟩:=h.blk y hy y0 this hst
   exact ⟨(hne y hy).2 (.inr a),c⟩
  ·obtain ⟨a1,a2,a3,a4,a5⟩:=h.kin x hx y hy
   refine ⟨a1,a2,a3,?_,a5⟩
   rw [hset y a1,if_neg (fun e=>a5 (by rw [e];exact hbst))];exact a4
  ·have hp:=(hI.up y hy y0).1
   have hc':tp F (tp T y) = 0 ∨ tp T y ∈ st:=by
    rcases hc with hc | hc
    ·refine .inl (Classical.byContradiction fun hh=>?_)
     exact (hne _ hp).2 (.inr hh) hc
    ·exact .inr hc
   rcases h.kall y hy y0 hc' with a | a | a
   ·exact .inl a
   ·exact .inr (.inl a)
   ·exact .inr (.inr ((hne y hy).2 (.inr a)))
  ·have hxb:x ≠ b:=fun e=>hst (by rw [e];exact hbst)
   have hnx:tp F x ≠ 0:=by
    rcases (hne x hx).1 hn with e | e
    ·exact absurd e hxb
    ·exact e
   obtain ⟨a1,a2⟩:=h.black x hx hnx hst
   refine ⟨by omega,fun y hy hny=>?_⟩
   rw [hset x hx,if_neg hxb,hset y hy]
   by_cases e:y = b
   ·subst e
    rw [if_pos rfl]
    constructor
    ·intro hu
     exact absurd hw' (h.up_blk hI hu ⟨hnx,hst⟩ hy).1
    ·rintro ⟨_,h2⟩;omega
   ·rw [if_neg e]
    refine a2 y hy ?_
    rcases (hne y hy).1 hny with e2 | e2
    ·exact absurd e2 e
    ·exact e2
  ·have hxB:=h.sin x hx
   rw [hset x hxB,hset y hy]
   by_cases ex:x = b
   ·subst ex
    rw [if_pos rfl]
    by_cases ey:y = x
    ·subst ey
     rw [if_pos rfl]
     exact ⟨fun _=>Int.le_refl _,fun _=>.here⟩
    ·rw [if_neg ey]
     have hnyF:tp F y ≠ 0:=by
      rcases (hne y hy).1 hny with e2 | e2
      ·exact absurd e2 ey
      ·exact e2
     constructor
     ·intro hu
      exact absurd hw' (h.up_ne hI hu hy hnyF)
     ·intro hle
      have:=(h.cnt.2 y hy).2
      omega
   ·rw [if_neg ex]
    have hnx:tp F x ≠ 0:=by
     rcases (hne x hxB).1 hn with e | e
     ·exact absurd e ex
     ·exact e
    by_cases ey:y = b
    ·subst ey
     rw [if_pos rfl]
     have hxr:x ∈ r:=by
      rw [hs] at hx
      rcases List.mem_cons.1 hx with e | e
      ·exact absurd e ex
      ·exact e
     have:=h.chain
     rw [hs] at this
     have:=(h.cnt.2 x hxB).2
     exact ⟨fun _=>by omega,fun _=>StK.up (by assumption) x hxr⟩
    ·rw [if_neg ey]
     refine h.gr x hx hnx y hy ?_
     rcases (hne y hy).1 hny with e2 | e2
     ·exact absurd e2 ey
     ·exact e2
  ·rcases h.zero with h0 | h0
   ·exact .inl h0
   ·right
    have hz:inB ts.length (0:Int) = true:=by have:=inB_iff hb;simp [inB];omega
    exact (hne 0 hz).2 (.inr h0)
 ·rw [if_neg hw,if_neg hw]
  exact ⟨h,hw⟩
theorem WI.pop (hI:Idom ts T) {b:Int} {r:List Int} (h:WI ts T n F L kids (b :: r)) (hb:tp F b ≠ 0) (hk:kids.getD b.toNat [] = []):WI ts T n F (L.set b.toNat n) kids r:=by
 have hbB:=h.sin b (by simp)
 have hbL:inB L.length b = true:=by rw [h.ll];exact hbB
 have hset:∀ x,inB ts.length x = true → tp (L.set b.toNat n) x = if x = b then n else tp L x:=fun x hx=>tp_set hbL (inB_iff hx).1
 have hnd:=h.snd
 rw [List.nodup_cons] at hnd
 obtain ⟨R,hR⟩:=hI.rank
 have hrup:∀ {x y:Int},Up T x y → inB ts.length y = true → R x ≤ R y:=by
  intro x y hu
  induction hu with
  | here=>exact fun _=>Nat.le_refl _
  | next y0 _ ih=>
    intro hy
    have:=ih (hI.up _ hy y0).1
    have:=hR _ hy y0
    omega
 have hch:∀ y,inB ts.length y = true → y ≠ 0 → tp T y = b → tp F y ≠ 0 ∧ y ∉ b :: r:=by
  intro y hy y0 hyb
  have hns:y ∉ b :: r:=by
   intro hm
   rcases List.mem_cons.1 hm with rfl | hm
   ·have:=hR y hy y0;rw [hyb] at this;omega
   ·have:=hrup (StK.up h.chain y hm) hbB
    have:=hR y hy y0
    rw [hyb] at this
    omega
  refine ⟨?_,hns⟩
  rcases h.kall y hy y0 (.inr (by rw [hyb];simp)) with a | a | a
  ·rw [hyb,hk] at a;cases a
  ·exact absurd a hns
  ·exact a
 refine ⟨h.lf,by simp [h.ll],h.lk,h.cnt,?_,fun x hx=>h.sin x (by simp [hx]),hnd.2,fun x hx=>h.grey x (List.mem_of_mem_tail hx),h.upc,fun y hy y0 hn hst=>?_,fun x hx y hy=>?_,h.knd,fun y hy y0 hc=>?_,fun x hx hn hst=>?_,fun x hx hn=>h.gr x (by simp [hx]) hn,?_⟩
 ·have:=h.chain
  cases r with
  | nil=>exact trivial
  | cons c r=>exact this.2.2
 ·by_cases e:tp T y = b
  ·obtain ⟨a,c⟩:=hch y hy y0 e
   exact ⟨a,fun hh=>c (by simp [hh])⟩
  ·obtain ⟨a,c⟩:=h.blk y hy y0 hn (fun hh=>by
    rcases List.mem_cons.1 hh with h1 | h1
    ·exact e h1
    ·exact hst h1)
   exact ⟨a,fun hh=>c (by simp [hh])⟩
 ·obtain ⟨a1,a2,a3,a4,a5⟩:=h.kin x hx y hy
  exact ⟨a1,a2,a3,a4,fun hh=>a5 (by simp [hh])⟩
 ·have hc':tp F (tp T y) = 0 ∨ tp T y ∈ b :: r:=hc.imp id (fun h=>List.mem_cons_of_mem _ h)
  rcases h.kall y hy y0 hc' with a | a | a
  ·exact .inl a
  ·rcases List.mem_cons.1 a with rfl | a
   ·exact .inr (.inr hb)
   ·exact .inr (.inl a)
  ·exact .inr (.inr a)
 ·rw [hset x hx]
  by_cases e:x = b
  ·subst e
   rw [if_pos rfl]
   refine ⟨Int.le_refl _,fun y hy hny=>?_⟩
   have:=(h.cnt.2 y hy).2
   rw [h.gr x (by simp) hn y hy hny]
   exact ⟨fun a=>⟨a,this⟩,fun a=>a.1⟩
  ·rw [if_neg e]
   exact h.black x hx hn (by simp [e,hst])
 ·rcases h.zero with h0 | h0
  ·rcases List.mem_cons.1 h0 with e | h0
   ·subst e;exact .inr hb
   ·exact .inl h0
  ·exact .inr h0
theorem last_notin {α:Type} {c:α} {r:List α} (hn:(c :: r).Nodup):(c :: r).getLast (by simp) ∉ (c :: r).dropLast:=by
 have h:=List.dropLast_concat_getLast (l:=c :: r) (by simp)
 rw [← h,List.nodup_append] at hn
 intro hm
 exact hn.2.2 _ hm _ (by simp) rfl
theorem WI.push (hI:Idom ts T) {b c:Int} {r q:List Int} (h:WI ts T n F L kids (b :: r)) (hb:tp F b ≠ 0) (hk:kids.getD b.toNat [] = c :: q):WI ts T n F L (kids.set b.toNat (c :: q).dropLast) ((c :: q).getLast (by simp) :: b :: r):=by
 have hbB:=h.sin b (by simp)
 obtain ⟨b0,b1⟩:=inB_iff hbB
 have hlk:=h.lk
 have hkset:∀ x,0 ≤ x → (kids.set b.toNat (c :: q).dropLast).getD x.toNat [] = if x = b then (c :: q).dropLast else kids.getD x.toNat []:=by
  intro x hx
  rw [List.getD_eq_getElem?_getD,List.getElem?_set]
  by_cases e:x = b
  ·subst e;rw [if_pos rfl,if_pos rfl,if_pos (by omega)];rfl
  ·rw [if_neg e,if_neg (by omega),← List.getD_eq_getElem?_getD]
 have hzk:(c :: q).getLast (by simp) ∈ kids.getD b.toNat []:=by rw [hk];exact List.getLast_mem _
 have hnot:=last_notin (by rw [← hk];exact h.knd b.toNat)
 have hdl:∀ y ∈ (c :: q).dropLast,y ∈ kids.getD b.toNat []:=fun y hy=>by rw [hk];exact (List.dropLast_sublist _).subset hy
 have hsp:∀ y ∈ kids.getD b.toNat [],y ∈ (c :: q).dropLast ∨ y = (c :: q).getLast (by simp):=fun y hy=>by
  rw [hk,← List.dropLast_concat_getLast (l:=c :: q) (by simp)] at hy
  rcases List.mem_append.1 hy with hy | hy
  ·exact .inl hy
  ·exact .inr (by simpa using hy)
 generalize (c :: q).getLast (by simp) = z at *
 obtain ⟨z1,z2,z3,z4,z5⟩:=h.kin b hbB z hzk
 refine ⟨h.lf,h.ll,by simp [h.lk],h.cnt,⟨z2,z3,h.chain⟩,fun x hx=>?_,List.nodup_cons.2 ⟨z5,h.snd⟩,fun x hx=>?_,h.upc,fun y hy y0 hn hst=>?_,fun x hx y hy=>?_,fun d=>?_,fun y hy y0 hc=>?_,fun x hx hn hst=>h.black x hx hn (fun hh=>hst (by simp at hh ⊢;exact .inr hh)),fun x hx hn=>?_,h.zero.imp (fun h=>by simp at h ⊢;exact .inr h) id⟩
 ·rcases List.mem_cons.1 hx with rfl | hx
  ·exact z1
  ·exact h.sin x hx
 ·rcases List.mem_cons.1 hx with rfl | hx
  ·exact hb
  ·exact h.grey x hx
 ·obtain ⟨a,d⟩:=h.blk y hy y0 hn (fun hh=>hst (by simp at hh ⊢;exact .inr hh))
  refine ⟨a,fun hh=>?_⟩
  rcases List.mem_cons.1 hh with rfl | hh
  ·exact a z4
  ·exact d hh
 ·rw [hkset x (inB_iff hx).1] at hy
  by_cases e:x = b
  ·subst e
   rw [if_pos rfl] at hy
   obtain ⟨a1,a2,a3,a4,a5⟩:=h.kin x hx y (hdl y hy)
   refine ⟨a1,a2,a3,a4,fun hh=>?_⟩
   rcases List.mem_cons.1 hh with rfl | hh
   ·exact hnot hy
   ·exact a5 hh
  ·rw [if_neg e] at hy
   obtain ⟨a1,a2,a3,a4,a5⟩:=h.kin x hx y hy
   refine ⟨a1,a2,a3,a4,fun hh=>?_⟩
   rcases List.mem_cons.1 hh with rfl | hh
   ·exact e (a3.symm.trans z3)
   ·exact a5 hh
 ·rw [List.getD_eq_getElem?_getD,List.getElem?_set]
  split
  ·split
   ·have:=h.knd b.toNat
    rw [hk] at this
    exact this.sublist (List.dropLast_sublist _)
   ·simp
  ·rw [← List.getD_eq_getElem?_getD];exact h.knd d
 ·have hp:=(hI.up y hy y0).1
  rw [hkset _ (inB_iff hp).1]
  have hc':tp F (tp T y) = 0 ∨ tp T y ∈ b :: r:=by
   rcases hc with hc | hc
   ·exact .inl hc
   ·rcases List.mem_cons.1 hc with e | hc
    ·exact .inl (by rw [e];exact z4)
    ·exact .inr hc
  rcases h.kall y hy y0 hc' with a | a | a
  ·by_cases e:tp T y = b
   ·rw [if_pos e]
    rw [e] at a
    rcases hsp y a with a | a
    ·exact .inl a
    ·exact .inr (.inl (by simp [a]))
   ·rw [if_neg e];exact .inl a
  ·exact .inr (.inl (by simp at a ⊢;exact .inr a))
  ·exact .inr (.inr a)
 ·rcases List.mem_cons.1 hx with rfl | hx
  ·exact absurd z4 hn
  ·exact h.gr x hx hn
end
def left (N:Nat) (F st:List Int):Nat:=(List.range N).countP fun i:Nat=>decide (tp F (i:Int) = 0 ∧ (i:Int) ∉ st)
theorem walkF_ok {ts:List (List Int)} {T:List Int} (hI:Idom ts T):∀ (k:Nat) (n:Int) (F L:List Int) (kids:List (List Int)) (st:List Int),WI ts T n F L kids st → 2 * left ts.length F st + st.length < k →
 ∃ n' F' L' kids',walkF k n F L kids st = some (F',L') ∧ WI ts T n' F' L' kids' []:=by
 intro k
 induction k with
 | zero=>intro n F L kids st _ h;omega
 | succ k ih=>
   intro n F L kids st h hk
   cases st with
   | nil=>exact ⟨n,F,L,kids,by rw [walkF],h⟩
   | cons b st=>
     obtain ⟨hv,hvb⟩:=h.visit hI rfl
     have hleft:left ts.length (if F.getD b.toNat 0 = 0 then F.set b.toNat (n + 1) else F) (b :: st) ≤ left ts.length F (b :: st):=by
      refine List.countP_mono_left (fun i hi hx=>?_)
      simp only [decide_eq_true_eq] at hx ⊢
      refine ⟨?_,hx.2⟩
      have hx1:=hx.1
      split at hx1
      ·rename_i hw
       have hb:=h.sin b (by simp)
       rw [tp_set (by rw [h.lf];exact hb) (by omega)] at hx1
       rw [if_neg (fun e=>hx.2 (by rw [e];simp))] at hx1
       exact hx1
      ·exact hx1
     rw [List.length_cons] at hk
     rw [walkF]
     generalize (if F.getD b.toNat 0 = 0 then n + 1 else n) = n2 at *
     generalize (if F.getD b.toNat 0 = 0 then F.set b.toNat (n + 1) else F) = F2 at *
     cases hkb:kids.getD b.toNat [] with
     | nil=>
       have hp:=hv.pop hI hvb hkb
       refine ih n2 F2 _ kids st hp ?_
       have:left ts.length F2 st ≤ left ts.length F2 (b :: st):=by
        refine List.countP_mono_left (fun i hi hx=>?_)
        simp only [decide_eq_true_eq] at hx ⊢
        refine ⟨hx.1,fun hh=>?_⟩
        rcases List.mem_cons.1 hh with e | hh
        ·rw [e] at hx;exact hvb hx.1
        ·exact hx.2 hh
       omega
     | cons c q=>
       have hp:=hv.push hI hvb hkb
       refine ih n2 F2 L _ _ hp ?_
       have hz:=hv.kin b (h.sin b (by simp)) ((c :: q).getLast (by simp)) (by rw [hkb];exact List.getLast_mem _)
       have hz0:=inB_iff hz.1
       have hy:((((c :: q).getLast (by simp)).toNat:Nat):Int) = (c :: q).getLast (by simp):=Int.toNat_of_nonneg hz0.1
       have:left ts.length F2 ((c :: q).getLast (by simp) :: b :: st) < left ts.length F2 (b :: st):=by
        refine countP_lt (y:=((c :: q).getLast (by simp)).toNat) (fun i hx=>?_) (by simp only [List.mem_range];omega) ?_ ?_
        ·simp only [decide_eq_true_eq] at hx ⊢
         exact ⟨hx.1,fun hh=>hx.2 (List.mem_cons_of_mem _ hh)⟩
        ·simp only [hy,decide_eq_false_iff_not]
         exact fun hh=>hh.2 (by simp)
        ·simp only [hy,decide_eq_true_eq]
         exact ⟨hz.2.2.2.1,hz.2.2.2.2⟩
       rw [List.length_cons,List.length_cons]
       omega
theorem walkOf_ok {ts:List (List Int)} {T:List Int} (hg:goodB ts = true) (hI:Idom ts T) {K:Nat} (hK:2 * ts.length + 1 < K) :
 ∃ F L,walkOf T K = some (F,L) ∧ ∀ x y,inB ts.length x = true → inB ts.length y = true → (Dm ts x y ↔ tp F x ≤ tp F y ∧ tp F y ≤ tp L x):=by
 have hn:0 < ts.length:=by unfold goodB at hg;simp only [Bool.and_eq_true,decide_eq_true_eq] at hg;exact hg.2
 have hz:inB ts.length (0:Int) = true:=by simp [inB];omega
 have hTn:∀ i,i < T.length → T.getD i 0 < (T.length:Int):=by
  intro i hi
  have hlen:=hI.len
  by_cases e:i = 0
  ·subst e
   have:=hI.root
   unfold tp at this
   rw [show (0:Int).toNat = 0 from rfl] at this
   omega
  ·have:=(inB_iff (hI.up (i:Int) (by simp [inB];omega) (by omega)).1).2
   unfold tp at this
   rw [Int.toNat_natCast] at this
   omega
 have hrep:∀ x:Int,tp (List.replicate ts.length (0:Int)) x = 0:=fun x=>by
  unfold tp;simp [List.getD_eq_getElem?_getD,List.getElem?_replicate];split <;> rfl
 have hrl:∀ c,(List.replicate ts.length ([]:List Int)).getD c [] = []:=fun c=>by
  simp [List.getD_eq_getElem?_getD,List.getElem?_replicate];split <;> rfl
 have hkm:∀ (c:Nat) (y:Int),y ∈ (kidsOf T).getD c [] ↔ ∃ i:Nat,i < ts.length ∧ y = (i:Int) ∧ T.getD i 0 = (c:Int):=by
  intro c y
  unfold kidsOf
  rw [hI.len,kidsF_mem (N:=ts.length) ts.length 0 _ (by simp) (fun i _ hi=>by have:=hTn i (by rw [hI.len];omega);rw [hI.len] at this;exact this) c y,hrl]
  constructor
  ·rintro (h | ⟨i,h1,h2,h3,h4⟩)
   ·cases h
   ·exact ⟨i,by omega,h3,h4⟩
  ·rintro ⟨i,h2,h3,h4⟩
   exact .inr ⟨i,by omega,by omega,h3,h4⟩
 have hkl:(kidsOf T).length = ts.length:=by
  unfold kidsOf
  have:∀ (k b:Nat) (rs:List (List Int)),(kidsF T rs b k).length = rs.length:=by
   intro k
   induction k with
   | zero=>intro b rs;rfl
   | succ k ih=>intro b rs;rw [kidsF,ih];split <;> simp [addAt]
  rw [this];simp [hI.len]
 have h0:WI ts T 0 (List.replicate ts.length 0) (List.replicate ts.length 0) (kidsOf T) [0]:=by
  refine ⟨by simp,by simp,hkl,⟨by omega,fun x _=>by rw [hrep];omega⟩,rfl,fun x hx=>by simp at hx;subst hx;exact hz,by simp,by simp,fun x _ h=>absurd (hrep x) h,fun y _ _ h=>absurd (hrep _) h,fun x hx y hy=>?_,fun c=>?_,fun y hy y0 _=>?_,fun x _ h=>absurd (hrep x) h,fun x _ h=>absurd (hrep x) h,.inl (by simp)⟩
  ·obtain ⟨i,h1,h2,h3⟩:=(hkm _ _).1 hy
   obtain ⟨x0,x1⟩:=inB_iff hx
   have hti:tp T y = x:=by unfold tp;rw [h2,Int.toNat_natCast,h3];omega
   have hy0:y ≠ 0:=fun e=>by rw [e,hI.root] at hti;omega
   exact ⟨by simp [inB,h2];omega,hy0,hti,hrep y,by simp [hy0]⟩
  ·unfold kidsOf
   refine kidsF_nodup _ 0 _ (fun c=>?_) c
   have:(List.replicate T.length ([]:List Int)).getD c [] = []:=by rw [hI.len];exact hrl c
   rw [this];simp
  ·left
   obtain ⟨y1,y2⟩:=inB_iff hy
   have hp:=inB_iff (hI.up y hy y0).1
   refine (hkm _ _).2 ⟨y.toNat,by omega,by omega,?_⟩
   show tp T y = _
   omega
 obtain ⟨n',F,L,kids',h1,h2⟩:=walkF_ok hI K 0 _ _ _ [0] h0 (by
  have:left ts.length (List.replicate ts.length 0) [0] ≤ ts.length:=by
   unfold left
   have:=List.countP_le_length (p:=fun i:Nat=>decide (tp (List.replicate ts.length (0:Int)) (i:Int) = 0 ∧ (i:Int) ∉ ([0]:List Int))) (l:=List.range ts.length)
   simpa using this
  simp;omega)
 refine ⟨F,L,by unfold walkOf;rw [hI.len];exact h1,fun x y hx hy=>?_⟩
 have hz0:tp F 0 ≠ 0:=by
  rcases h2.zero with h | h
  ·cases h
  ·exact h
 have hall:∀ x,inB ts.length x = true → tp F x ≠ 0:=fun x hx=>(h2.up_blk hI (Dm.up hI hx (Dm.of_zero x)) ⟨hz0,by simp⟩ hx).1
 rw [← up_iff hI hy]
 exact (h2.black x hx (hall x hx) (by simp)).2 y hy (hall y hy)
end Go.Proofs.Ytgbeliajhccndaa
end
section
set_option linter.unusedVariables false
set_option linter.unusedSimpArgs false
namespace Go.Proofs.Ytgbeliajhccndaa
open Go.RowKit Go.Proofs.YtgbeliajhccndaaW.PrintWords Go.Proofs.YtgbeliajhccndaaW.PrintLast Go.Proofs.YtgbeliajhccndaaW.PrintMore PP
set_option maxRecDepth 100000 in
set_option maxHeartbeats 8000000 in
theorem walk_any (g:Nat) (d:Ck) (v3 v4 v5 v6:Value) (K:Nat) (T line F L:List Int) (w0 w:World) (h:CkB w0 w g d v3 v4 v5 v6) (hb4:d.f.f4.length ≤ 2000000) (hg:goodB (waysL d.f) = true) (hK:K ≤ 10000000)
 (hl:lineOf (waysL d.f) K = some line) (ht:treeOf (waysL d.f) K = some T) (hin:line.all (inB (waysL d.f).length) = true) (hln:line.length ≤ 2000000) (hl0:0 < line.length) (h2:∀ i,i < (waysL d.f).length → ((waysL d.f).getD i []).length ≤ 2)
 (hT:∀ b,b < T.length → T.getD b 0 < (T.length:Int)) (hF:walkOf T K = some (F,L)) :
 Calls Try.prog 47 #[.pointer (some ⟨g,0,none⟩)] w fun e w'=>e = .returned (.tuple #[]) ∧ Hid (∃ gf gl,CkB w0 w' g d (.slice (some ⟨gf,0,none⟩) d.f.f4.length d.f.f4.length) (.slice (some ⟨gl,0,none⟩) d.f.f4.length d.f.f4.length) v5 v6 ∧ RowI w' gf F ∧ RowI w' gl L ∧ F.length = d.f.f4.length ∧ L.length = d.f.f4.length) ∧ Hid (∀ j,j < w.heap.size → j ≠ g → w'.heap[j]? = w.heap[j]?):=by
 obtain ⟨fs,mn,A,c,p,f,A1,c1,A3,c3,A4,c4⟩:=d
 have hck:=h.ck
 have HK0:=Lib.hid h
 have HCK:=Lib.hid hck
 have hb4':f.f4.length ≤ 2000000:=hb4
 have hmk2:=fun W=>print_make_of (P:=Try.prog) 73 34 (.slice none 0 0) 24 Try.underlying73 info34 rfl (by decide) f.f4.length (by omega) W
 have hwl:(waysL f).length = f.f4.length:=by simp [waysL]
 have hlw:(waysL f).length ≤ 2000000:=by omega
 have H4:=Lib.hid hb4
 have HB4:=Lib.hid hb4'
 have HG:=Lib.hid hg
 have HK:=Lib.hid hK
 have HL:=Lib.hid hl
 have HT:=Lib.hid ht
 have HI:=Lib.hid hin
 have HLN:=Lib.hid hln
 have HL0:=Lib.hid hl0
 have H2:=Lib.hid h2
 have HTB:=Lib.hid hT
 have HF:=Lib.hid hF
 have HLW:=Lib.hid hlw
 have HWL:=Lib.hid hwl
 have y2:w.cell? ⟨g,2,none⟩ = some (.pointer (some p)):=hck.y2
 have x4:w.cell? ⟨p.block,p.off + 4,none⟩ = some (.slice A4 f.f4.length c4):=hck.at_.c4
 have HC1:=Lib.hid (hck.below (below_alloc (Below.refl w.heap.size w) (.cells (madeCells #[.slice none 0 0] f.f4.length) 34)))
 clear h hck hb4 hg hK hl ht hin hln hl0 h2 hT hF hlw hwl
 go_enter Try.func47,Try.ntmps47
 go_wp2_with (first | (go_at_call 37;with_reducible refine Calls.mono (ways_any g ⟨fs,mn,A,c,p,f,A1,c1,A3,c3,A4,c4⟩ v3 v4 v5 v6 _ HC1.out H4.out) ?_;rintro e w1 ⟨Aw,cw,rfl,hcw,hC1,hb1⟩;have HCW:=Lib.hid hC1;have HB1:=Lib.hid hb1;clear hC1 hb1) | (go_at_call 71;with_reducible refine Calls.mono (Tree_any Aw cw (waysL f) K T line _ HCW.out HG.out HLW.out HK.out HL.out HT.out HI.out HLN.out HL0.out H2.out) ?_;rintro e w2 ⟨gt,rfl,HR2,hb2⟩;have HB2:=Lib.hid (below_then HB1.out HB1.out.size hb2);have HSZ:=Lib.hid hb2.size;clear hb2) | (go_at_call 71;refine stop_intro ?_) | (go_at_call 37;refine stop_intro ?_))
 rw [HWL.out]
 have hTn:T.length = f.f4.length:=by have:=HR2.out.2.1;have:=HWL.out;omega
 have HTN:=Lib.hid hTn
 have HKD:Hid (KdW w w2 w2 w.heap.size gt T (List.replicate f.f4.length zH) (List.replicate f.f4.length [])):=Lib.hid (by
  have hs:=HB2.out.size
  rw [size_alloc'] at hs
  have hs1:=HB1.out.size
  rw [size_alloc'] at hs1
  have hge:=HR2.out.2.2
  exact ⟨below_then (below_alloc (Below.refl _ _) _) (by simp) HB2.out,HR2.out.1,(Ld.made w f.f4.length w2.heap.size).below HB2.out,Nat.le_refl _,by omega,HR2.out.1.lt,by omega,Nat.le_refl _⟩)
 obtain ⟨KO,hKO⟩:∃ KO,kidsOf T = KO:=⟨_,rfl⟩
 have HKO0:Hid (KO = kidsF T (List.replicate f.f4.length []) 0 f.f4.length):=Lib.hid (by rw [← hKO,kidsOf,hTn])
 have HWF:Hid (walkF K 0 (List.replicate f.f4.length 0) (List.replicate f.f4.length 0) KO [0] = some (F,L)):=Lib.hid (by have:=HF.out;rw [walkOf,hKO,hTn] at this;exact this)
 have HTB2:Hid (∀ b,b < f.f4.length → T.getD b 0 < (f.f4.length:Int)):=Lib.hid (by have:=HTB.out;rwa [hTn] at this)
 have mfl:=HB4.out
 clear hKO hTn y2 x4 hmk2 HF HTB
 obtain ⟨n,hn⟩:∃ n,n = f.f4.length:=⟨_,rfl⟩
 rw [← hn] at HKD HKO0 HWF HTB2 mfl HTN ⊢
 have HN:=Lib.hid hn
 clear hn
 generalize hgk0:w.heap.size = gk0 at *
 have HGK:=Lib.hid hgk0
 clear hgk0
 go_loopg [5,6,25] n (fun k _ _ v wr=>∃ (i:Nat) (hs:List Hd) (rs:List (List Int)),i ≤ n ∧ v = .int .i64 i ∧ Hid (i + k = n) ∧ Hid (KO = kidsF T rs i k) ∧ Hid (KdW w w2 wr gk0 gt T hs rs) ∧ Hid (hs.length = n) ∧ Hid (∀ j,(rs.getD j []).length ≤ i) ∧ Hid (∀ j,∀ x ∈ rs.getD j [],inB n x = true))
 case atStart=>exact ⟨0,_,_,by omega,rfl,Lib.hid (by omega),HKO0,HKD,Lib.hid (by simp),Lib.hid (fun j=>by simp [List.getD_eq_getElem?_getD,List.getElem?_replicate];split <;> simp),Lib.hid (fun j=>by simp [List.getD_eq_getElem?_getD,List.getElem?_replicate];split <;> simp)⟩
 case round=>
  clear HKO0 HKD
  obtain ⟨i,hs,rs,hi,rfl,HJ,HKF,HW,HHL,HNN,HKR⟩:=hrel
  by_cases hlt:i < n
  ·obtain ⟨k1,hk1⟩:∃ k1,gk = k1 + 1:=⟨gk - 1,by have:=HJ.out;omega⟩
   have HKF2:Hid (KO = kidsF T (if 0 ≤ T.getD i 0 then addAt rs (T.getD i 0).toNat (i:Int) else rs) (i + 1) k1):=Lib.hid (by have:=HKF.out;rw [hk1] at this;exact kidsF_step this)
   have cT:=HW.out.tr.cell (i:=i) (by have:=HTN.out;omega)
   have htb:=HTB2.out i hlt
   have HK1:=Lib.hid hk1
   clear hk1
   generalize T.getD i 0 = td at *
   by_cases hneg:0 ≤ td
   ·have HKF3:Hid (KO = kidsF T (addAt rs td.toNat (i:Int)) (i + 1) k1):=Lib.hid (by have:=HKF2.out;rwa [if_pos hneg] at this)
    have hcl:td.toNat < hs.length:=by have:=HHL.out;omega
    have HCL:=Lib.hid hcl
    have hc:=HW.out.ld.cell hcl
    obtain ⟨hd,hhd⟩:∃ hd,hd = hs.getD td.toNat zH:=⟨_,rfl⟩
    rw [← hhd] at hc
    have HGD:=Lib.hid hhd
    unfold encH at hc
    clear hhd hcl
    go_wp2_with (at_builtin;refine stop_intro ?_)
    unfold Stop
    have hR:=HW.out.ld.row _ HCL.out
    rw [← HGD.out] at hR
    have hsz:=HW.out.b5
    refine Kd.R_append (Kd.int .i64) (w0:=wr) (W:=wr) w2.heap.size rfl (.tmp 39) (.tmp 41) 34 3 (.int .i64 0) 8 rfl Try.underlying34 info3 rfl (by decide) (by decide) (encH hd) (rs.getD td.toNat []) (i:Int) [.int .i64 (i:Int)] (fun _=>True) (fun _=>False) rfl rfl rfl (fun _ h=>h.elim) (fun _ _=>trivial) hR ?bel hsz ?len ?_
    case bel=>exact (Below.refl wr.heap.size wr).mono hsz
    case len=>have:=HNN.out td.toNat;omega
    intro v1 w4 hR1 _ hg1 hat1
    obtain ⟨A3,k3,e3⟩:=Kd.R_slice hR1
    obtain ⟨h1,hh1⟩:∃ h1:Hd,v1 = encH h1:=⟨⟨A3,_,k3⟩,e3⟩
    subst hh1
    rw [HGD.out] at hg1 hat1
    have hblk:=HW.out.ld.grown_blk HCL.out hg1
    have HW4:=Lib.hid (HW.out.app HCL.out hR1 hg1 hat1)
    have hc3:w4.cell? ⟨gk0,td.toNat,none⟩ = some (encH hd):=by
     rw [blk_cell hblk,HGD.out];have:=HCL.out;simp [List.getD_eq_getElem?_getD,this]
    have hf3:=blk_frozen hblk td.toNat
    have HN4:=Lib.hid (addAt_len (c:=td.toNat) (x:=(i:Int)) HNN.out)
    have HN5:=Lib.hid (addAt_all (c:=td.toNat) (x:=(i:Int)) HKR.out (by simp [inB];omega))
    clear hblk hg1 hat1 hR hR1 e3 hsz
    obtain ⟨h1a,h1n,h1c⟩:=h1
    obtain ⟨hda,hdn,hdc⟩:=hd
    unfold encH at hc3
    unfold encH
    go_wp2
    go_roundg k1
    case measure=>have:=HK1.out;omega
    case rel=>exact ⟨i + 1,_,_,by omega,by go_num,Lib.hid (by have:=HJ.out;have:=HK1.out;omega),HKF3,HW4,Lib.hid (by have:=HHL.out;simpa using this),HN4,HN5⟩
   ·have HKF3:Hid (KO = kidsF T rs (i + 1) k1):=Lib.hid (by have:=HKF2.out;rwa [if_neg hneg] at this)
    go_wp2
    go_roundg k1
    case measure=>have:=HK1.out;omega
    case rel=>exact ⟨i + 1,hs,rs,by omega,by go_num,Lib.hid (by have:=HJ.out;have:=HK1.out;omega),HKF3,HW,HHL,Lib.hid (fun j=>Nat.le_trans (HNN.out j) (by omega)),HKR⟩
  ·obtain ⟨wk,hwk⟩:∃ wk,wk = wr:=⟨_,rfl⟩
   subst hwk
   have hil:i = n:=by omega
   have hg0:gk = 0:=by have:=HJ.out;omega
   have hKR:KO = rs:=by have:=HKF.out;rw [hg0] at this;exact this
   rw [hKR] at HWF
   clear hKR hil hg0 HKF
   have hKW:CkB w0 w g ⟨fs,mn,A,c,p,f,A1,c1,A3,c3,A4,c4⟩ v3 v4 v5 v6:=HK0.out
   have hgl:g < gk0:=by have:=blk_lt hKW.bk;have:=HGK.out;omega
   have hbkw:=blkB HW.out.below hKW.bk
   have hbel0:Below w0.heap.size w0 wk:=below_then hKW.below hKW.below.size HW.out.below
   have hgw:g < wk.heap.size:=blk_lt hbkw
   have HM:Hid (Mk2 w0 wk wk g ⟨fs,mn,A,c,p,f,A1,c1,A3,c3,A4,c4⟩ v3 v4 v5 v6 n []):=Lib.hid ⟨hbel0,hbkw,fun _ _ _=>rfl,fun _ h=>by simp at h,Nat.le_refl _⟩
   have HGE:Hid (w0.heap.size ≤ g ∧ g < wk.heap.size ∧ g < gk0):=Lib.hid ⟨hKW.ge,hgw,hgl⟩
   have hmk:=fun W=>print_make (P:=Try.prog) 34 3 .i64 8 Try.underlying34 info3 (by decide) n (by omega) W
   obtain ⟨O2,hO2⟩:∃ O2:Obj,O2 = .cells (madeCells #[.int .i64 0] n) 3:=⟨_,rfl⟩
   have y3:wk.cell? ⟨g,3,none⟩ = some v3:=(blk_cell hbkw 3).trans rfl
   have y4:wk.cell? ⟨g,4,none⟩ = some v4:=(blk_cell hbkw 4).trans rfl
   have f3:wk.frozen? ⟨g,3,none⟩ = false:=blk_frozen hbkw 3
   have f4:wk.frozen? ⟨g,4,none⟩ = false:=blk_frozen hbkw 4
   have y3a:=cellO y3 O2
   have y4a:=cellO y4 O2
   have f3a:(wk.alloc O2).frozen? ⟨g,3,none⟩ = false:=frozenO hbkw O2 3
   have f4a:(wk.alloc O2).frozen? ⟨g,4,none⟩ = false:=frozenO hbkw O2 4
   have y3b:=cellO y3a O2
   have y4b:=cellO y4a O2
   have hbk2:=blkB (below_alloc (Below.refl _ _) O2) hbkw
   have f3b:((wk.alloc O2).alloc O2).frozen? ⟨g,3,none⟩ = false:=frozenO hbk2 O2 3
   have f4b:((wk.alloc O2).alloc O2).frozen? ⟨g,4,none⟩ = false:=frozenO hbk2 O2 4
   have y4c:=cellSO (p:=⟨g,3,none⟩) y4a (by simp) (.slice (some ⟨wk.heap.size,0,none⟩) n n) O2
   have y3d:=cellSO (p:=⟨g,4,none⟩) y3a (by simp) (.slice (some ⟨wk.heap.size,0,none⟩) n n) O2
   have hbkc:=blk_set hbk2 3 (.slice (some ⟨wk.heap.size,0,none⟩) n n)
   have hbkd:=blk_set hbk2 4 (.slice (some ⟨wk.heap.size,0,none⟩) n n)
   have f4c:(((wk.alloc O2).setCell ⟨g,3,none⟩ (.slice (some ⟨wk.heap.size,0,none⟩) n n)).alloc O2).frozen? ⟨g,4,none⟩ = false:=frozenO hbkc O2 4
   have f3d:(((wk.alloc O2).setCell ⟨g,4,none⟩ (.slice (some ⟨wk.heap.size,0,none⟩) n n)).alloc O2).frozen? ⟨g,3,none⟩ = false:=frozenO hbkd O2 3
   clear hbk2 hbkc hbkd hbkw hKW hbel0 hgl hgw
   subst hO2
   go_wp2
   clear hlt hi
   go_cut [] (fun wx=>Hid (Made2 w0 wk wx g ⟨fs,mn,A,c,p,f,A1,c1,A3,c3,A4,c4⟩ v5 v6 n))
   case first=>
    go_region
    all_goals
     go_wp2
     go_meet
    all_goals
     refine Lib.hid ?_
     apply Made2.of
     case h=>
      apply Mk2.drew
      repeat first | apply Mk2.s3 (hg:=HGE.out.1) (h1:=HGE.out.2.1) | apply Mk2.s4 (hg:=HGE.out.1) (h1:=HGE.out.2.1) | apply Mk2.alloc (ha:=rfl)
      exact HM.out
     all_goals simp
   case rest=>
    clear y3 y4 f3 f4 y3a y4a f3a f4a y3b y4b f3b f4b y4c y3d f4c f3d hmk
    obtain ⟨gf,gl,rows,hM,hgf,hgl,hne⟩:=hcut.out
    have hfr:=hM.rows gf hgf
    have hlr:=hM.rows gl hgl
    have hgf2:=blk_lt hfr.1
    have hgl2:=blk_lt hlr.1
    have hb2:=HW.out.b2
    have hb5:=HW.out.b5
    have hge:=HGE.out
    have hgk:=HGK.out
    have hws:=HK0.out.below.size
    have HA:Hid (WkA w0 w wk.heap.size g gk0 gf gl wc.heap.size):=Lib.hid ⟨by omega,hne⟩
    have HS0:Hid (WkS w0 w wc wk.heap.size g gk0 gf gl ⟨fs,mn,A,c,p,f,A1,c1,A3,c3,A4,c4⟩ v5 v6 n (List.replicate n 0) (List.replicate n 0) hs rs):=Lib.hid ⟨hM.below,hM.bk,hfr.1,hlr.1,LdU.of HW.out.ld (g:=g) (by omega) (by omega) hM.keep,fun j hj hjg=>(hM.keep j (by omega) hjg).trans (HW.out.below.block j hj),by simp,by simp,HHL.out⟩
    obtain ⟨D,hD⟩:∃ D:Ck,D = ⟨fs,mn,A,c,p,f,A1,c1,A3,c3,A4,c4⟩:=⟨_,rfl⟩
    rw [← hD] at HS0
    have HD:=Lib.hid hD
    obtain ⟨ow,how⟩:∃ ow:Obj,ow = .cells #[.int .i64 0] 3:=⟨_,rfl⟩
    have HS1:Hid (WkS w0 w (wc.alloc (.cells #[.int .i64 0] 3)) wk.heap.size g gk0 gf gl D v5 v6 n (List.replicate n 0) (List.replicate n 0) hs rs):=Lib.hid (HS0.out.grow (row:=none) HA.out (grown_of_below (below_alloc (Below.refl _ _) _) none) (by simp) (Nat.le_refl _))
    have HV1:Hid ((wc.alloc (.cells #[.int .i64 0] 3)).ownsRow wc.heap.size 3 1 (.slice (some ⟨wc.heap.size,0,none⟩) 1 1) 1 (nums .i64 [0])):=Lib.hid (own_lit wc wc.heap.size 3 .i64 [0] (Nat.le_refl _) (by simp))
    have HZ:Hid (wc.heap.size ≤ (wc.alloc (.cells #[.int .i64 0] 3)).heap.size):=Lib.hid (by simp)
    have HN0:Hid (0 < n):=Lib.hid (by have h1:=HG.out;unfold goodB at h1;simp only [Bool.and_eq_true,decide_eq_true_eq] at h1;have:=HN.out;have:=HWL.out;omega)
    have mK:=HK.out
    clear hM hfr hlr hgf2 hgl2 hb2 hb5 hge hgk hws hgf hgl hcut hD how HW HM HS0 hne
    go_wp2
    generalize wk.heap.size = sz at *
    generalize wc.heap.size = bb at *
    go_loopg [7,8,9,10] K (fun k v7 v8 _ _ wr=>∃ (m:Int) (st:List Int) (F1 L1:List Int) (hs:List Hd) (kids:List (List Int)),v7 = .int .i64 m ∧ Hid (walkF k m F1 L1 kids st = some (F,L)) ∧ Hid (WkS w0 w wr sz g gk0 gf gl D v5 v6 n F1 L1 hs kids) ∧ Hid (wr.ownsRow bb 3 1 v8 st.length (nums .i64 st.reverse)) ∧ Hid (0 ≤ m ∧ m + k ≤ K ∧ st.length + k ≤ K + 1) ∧ Hid (∀ x ∈ st,inB n x = true) ∧ Hid (∀ j,∀ x ∈ kids.getD j [],inB n x = true) ∧ Hid (bb ≤ wr.heap.size))
    case atStart=>exact ⟨0,[0],_,_,_,_,rfl,HWF,HS1,HV1,Lib.hid ⟨by omega,by omega,by simp;omega⟩,Lib.hid (fun x hx=>by simp at hx;subst hx;have:=HN0.out;simp [inB];omega),HKR,HZ⟩
    case round=>
     clear HS1 HV1
     obtain ⟨m,st,F1,L1,hs,kids,rfl,HWF,HS,HV,HC,HI,HKR,HZ⟩:=hrel
     match st,HWF,HV,HC,HI with
     | [],HWF,HV,HC,HI=>
       obtain ⟨A8,c8,hv8⟩:=own_slice HV.out
       obtain rfl:=hv8
       have hE:=walkF_nil HWF.out
       injection hE with hE1 hE2
       rw [← hE1,← hE2] at HS
       clear hE1 hE2 HWF
       go_wp2
       go_end0
       refine ⟨rfl,Lib.hid ⟨gf,gl,?_⟩,Lib.hid HS.out.keep⟩
       have hS:=HS.out
       have hD:=HD.out
       subst hD
       have hnn:=HN.out
       subst hnn
       exact ⟨⟨HK0.out.at_,HK0.out.fs_,HK0.out.hc,hS.below,HK0.out.ge,hS.bk⟩,hS.rf,hS.rl,hS.l1,hS.l2⟩
     | b :: st,HWF,HV,HC,HI=>
       obtain ⟨k1,hk1⟩:=walkF_pos HWF.out
       have hb:=HI.out b (by simp)
       obtain ⟨b0,b1⟩:=inB_iff hb
       obtain ⟨m2,F2,hm2,hF2,hW2⟩:∃ m2 F2,(if F1.getD b.toNat 0 = 0 then m + 1 else m) = m2 ∧ (if F1.getD b.toNat 0 = 0 then F1.set b.toNat (m + 1) else F1) = F2 ∧ (match kids.getD b.toNat [] with
        | []=>walkF k1 m2 F2 (L1.set b.toNat m2) kids st
        | c :: r=>walkF k1 m2 F2 L1 (kids.set b.toNat (c :: r).dropLast) ((c :: r).getLast (by simp) :: b :: st)) = some (F,L):=⟨_,_,rfl,rfl,by have:=HWF.out;rw [hk1,walkF] at this;exact this⟩
       obtain ⟨gv,cap,hv8,hcap,hgb,hgs,hmax⟩:=own_form HV.out (by simp)
       obtain rfl:=hv8
       have hV:=HV.out
       rw [List.length_cons] at hV hcap ⊢
       obtain ⟨q,hq⟩:∃ q,q = st.length:=⟨_,rfl⟩
       rw [← hq] at hV hcap ⊢
       have c8:=(own_at hV (q:Int) (by omega) (by omega)).1
       have hrd:rd (b :: st).reverse (q:Int) = b:=by rw [hq];simp [rd,List.getD_eq_getElem?_getD]
       rw [hrd,Int.toNat_natCast] at c8
       have HV:=Lib.hid hV
       have HQ:=Lib.hid hq
       have HK1:=Lib.hid hk1
       have HW2:=Lib.hid hW2
       have HM2:=Lib.hid hm2
       have HF2:=Lib.hid hF2
       have HB:=Lib.hid hb
       have hcq:q ≤ 10000000:=by have:=HC.out.2.2;rw [List.length_cons] at this;omega
       have hcm:0 ≤ m ∧ m ≤ 10000000:=by have:=HC.out.1;have:=HC.out.2.1;omega
       obtain ⟨hm0,hm1⟩:=hcm
       have cF:=HS.out.rf.cell (i:=b.toNat) (by have:=HS.out.l1;omega)
       have fF:=HS.out.rf.frozen b.toNat
       have y3:wr.cell? ⟨g,3,none⟩ = some (.slice (some ⟨gf,0,none⟩) n n):=(blk_cell HS.out.bk 3).trans rfl
       have HGV:Hid (some gf ≠ (Value.slice (some ⟨gv,0,none⟩) (q + 1) cap).ownBlock):=Lib.hid (by have:=HA.out.a1;simp [Value.ownBlock];omega)
       obtain ⟨f0,hf0⟩:∃ f0,F1.getD b.toNat 0 = f0:=⟨_,rfl⟩
       rw [hf0] at cF HM2 HF2
       clear hk1 hm2 hF2 hW2 hV hq hrd hb HWF hf0 hgs hmax
       go_upto_if 72 with (fail)
       go_cut [7] (fun v wx=>v = .int .i64 m2 ∧ Hid (WkS w0 w wx sz g gk0 gf gl D v5 v6 n F2 L1 hs kids) ∧ Hid (wx.ownsRow bb 3 1 (.slice (some ⟨gv,0,none⟩) (q + 1) cap) (q + 1) (nums .i64 (b :: st).reverse)) ∧ Hid (bb ≤ wx.heap.size))
       case first=>
        by_cases hz:f0 = 0
        ·subst hz
         go_wp2
         go_meet
         refine ⟨by rw [← HM2.out];simp,Lib.hid ?_,Lib.hid (own_setCell HV.out HGV.out _),Lib.hid (by have:=HZ.out;simpa [World.setCell] using this)⟩
         have hF2:=HF2.out
         simp only [if_true] at hF2
         rw [← hF2]
         exact HS.out.setF HA.out b.toNat (m + 1)
        ·have hz1:(f0 == 0) = false:=by simpa using hz
         go_wp2
         go_meet
         refine ⟨by rw [← HM2.out,if_neg hz],Lib.hid ?_,HV,HZ⟩
         rw [← HF2.out,if_neg hz]
         exact HS.out
       case rest=>
        obtain ⟨rfl,HS2,HV2,HZ2⟩:=hcut
        have hm2:0 ≤ m2 ∧ m2 ≤ m + 1:=by have:=HM2.out;split at this <;> omega
        have HM3:=Lib.hid hm2
        have hcl:b.toNat < hs.length:=by have:=HS2.out.l3;omega
        have hc:=HS2.out.ld.ld.cell hcl
        obtain ⟨e1,e2,e3⟩:=HS2.out.ld.ld.C hcl
        obtain ⟨hd,hhd⟩:∃ hd,hs.getD b.toNat zH = hd:=⟨_,rfl⟩
        rw [hhd] at hc e1 e2 e3
        have HHD:=Lib.hid hhd
        have HCL:=Lib.hid hcl
        obtain ⟨hda,hdn,hdc⟩:=hd
        unfold encH at hc
        simp only at e1 e2 e3 hc
        subst e1
        clear hhd hcl hm2 cF fF y3 c8
        obtain ⟨R,hR⟩:∃ R,kids.getD b.toNat [] = R:=⟨_,rfl⟩
        have HKB:=Lib.hid hR
        have HW3:=HW2
        rw [hR] at HW3 hc e2 e3 HHD
        have HRI:Hid (∀ x ∈ R,inB n x = true):=Lib.hid (by rw [← hR];exact HKR.out _)
        have mR:=e3.2.1
        have HE3:=Lib.hid e3
        clear hR HW2 e3
        cases R with
        | nil=>
          have cL:=HS2.out.rl.cell (i:=b.toNat) (by have:=HS2.out.l2;omega)
          have fL:=HS2.out.rl.frozen b.toNat
          have y4:wc.cell? ⟨g,4,none⟩ = some (.slice (some ⟨gl,0,none⟩) n n):=(blk_cell HS2.out.bk 4).trans rfl
          have HS4:=Lib.hid (HS2.out.setL HA.out b.toNat m2)
          have HGV2:Hid (some gl ≠ (Value.slice (some ⟨gv,0,none⟩) (q + 1) cap).ownBlock):=Lib.hid (by have:=HA.out.a1;simp [Value.ownBlock];omega)
          obtain ⟨i3,hi3,_⟩:=Option.map_eq_some_iff.1 info3
          have hct:∀ W:World,(Instr.slice 34 (.slice (some ⟨gv,0,none⟩) (q + 1) cap) none (some (.int .i64 (q:Int))) none).run Try.prog W = .ok (.slice (some ⟨gv,0,none⟩) q cap) W:=by
           intro W
           have h5:=cut_to (P:=Try.prog) 34 3 .i64 Try.underlying34 hi3 (some ⟨gv,0,none⟩) (q + 1) cap (q:Int) (by omega) (by omega) hcap W
           rwa [Int.toNat_natCast] at h5
          clear hi3
          go_wp2
          go_roundg k1
          case measure=>have:=HK1.out;omega
          case rel=>
           refine ⟨m2,st,F2,_,hs,kids,rfl,HW3,HS4,Lib.hid ?_,Lib.hid ?_,Lib.hid (fun y hy=>HI.out y (by simp [hy])),HKR,Lib.hid (by have:=HZ2.out;simpa [World.setCell] using this)⟩
           ·have h5:=own_take (m:=q) (own_setCell (p:=⟨gl,b.toNat,none⟩) HV2.out HGV2.out (.int .i64 m2)) (by omega)
            have h6:(nums .i64 (b :: st).reverse).take (q * 1) = nums .i64 st.reverse:=by
             rw [HQ.out];simp [nums,List.map_append]
            rw [h6] at h5
            rw [← HQ.out]
            exact h5
           ·have:=HC.out;have:=HK1.out;have:=HM3.out;simp at *;omega
        | cons y r=>
          obtain ⟨ad,hA,cR⟩:=int_at (i:=r.length) HE3.out (by simp)
          rw [getD_last] at cR
          obtain ⟨z,hz⟩:∃ z,(y :: r).getLast (by simp) = z:=⟨_,rfl⟩
          have HW4:Hid (walkF k1 m2 F2 L1 (kids.set b.toNat (y :: r).dropLast) (z :: b :: st) = some (F,L)):=Lib.hid (by rw [← hz];exact HW3.out)
          have HZI:Hid (inB n z = true):=Lib.hid (by rw [← hz];exact HRI.out _ (List.getLast_mem _))
          rw [hz] at cR
          rw [List.length_cons] at hc mR e2 HHD
          obtain rfl:=hA
          have HRL:=Lib.hid (⟨r.length,rfl⟩:∃ u,u = r.length)
          obtain ⟨u,hu⟩:=HRL.out
          rw [← hu] at hc mR e2 cR HHD
          have HU:=Lib.hid hu
          clear hz hu HW3 HRL
          go_wp2_with (at_builtin;refine stop_intro ?_)
          unfold Stop
          have hVL:((b :: st).reverse).length = q + 1:=by rw [HQ.out];simp
          refine print_append_num (w0:=wc) bb rfl (.tmp 89) (.tmp 98) 34 3 .i64 8 rfl Try.underlying34 info3 (by decide) (.slice (some ⟨gv,0,none⟩) (q + 1) cap) (b :: st).reverse z rfl rfl (by rw [hVL];exact HV2.out) ((Below.refl wc.heap.size wc).mono HZ2.out) HZ2.out ?len ?_
          case len=>rw [hVL];omega
          intro v1 w4 hV4 hB4 hg4 hat4
          have HS4:=Lib.hid (HS2.out.grow HA.out hg4 (fun k hk=>by simp [Value.ownBlock] at hk;omega) HZ2.out)
          have hcl:=HCL.out
          have hc4:=HS4.out.ld.ld.cell hcl
          rw [HHD.out] at hc4
          unfold encH at hc4
          have f4:=blk_frozen HS4.out.ld.ld.blk b.toNat
          have HS5:=Lib.hid (HS4.out.cut HA.out hcl HHD.out (m:=u) (by omega))
          obtain ⟨i3,hi3,_⟩:=Option.map_eq_some_iff.1 info3
          have hct:∀ W:World,(Instr.slice 34 (.slice (some ad) (u + 1) hdc) none (some (.int .i64 (u:Int))) none).run Try.prog W = .ok (.slice (some ad) u hdc) W:=by
           intro W
           have h5:=cut_to (P:=Try.prog) 34 3 .i64 Try.underlying34 hi3 (some ad) (u + 1) hdc (u:Int) (by omega) (by omega) e2 W
           rwa [Int.toNat_natCast] at h5
          have HV5:Hid ((w4.setCell ⟨gk0,b.toNat,none⟩ (.slice (some ad) u hdc)).ownsRow bb 3 1 v1 (z :: b :: st).length (nums .i64 (z :: b :: st).reverse)):=Lib.hid (by
           have h6:(z :: b :: st).reverse = (b :: st).reverse ++ [z]:=by simp
           rw [h6,← List.length_reverse,h6]
           refine own_setCell hV4 (fun e=>?_) _
           have h7:=own_base hV4 gk0 e.symm
           have:=HA.out.a1
           omega)
          have HZ5:Hid (bb ≤ (w4.setCell ⟨gk0,b.toNat,none⟩ (.slice (some ad) u hdc)).heap.size):=Lib.hid (by have:=HZ2.out;have:=hg4.size;simp [World.setCell];omega)
          have HKE:Hid (kids.set b.toNat ((kids.getD b.toNat []).take u) = kids.set b.toNat (y :: r).dropLast):=Lib.hid (by rw [HKB.out,HU.out,take_last])
          clear hi3 hV4 hB4 hg4 hat4 hVL hcl hc cR
          go_wp2
          go_roundg k1
          case measure=>have:=HK1.out;omega
          case rel=>
           refine ⟨m2,z :: b :: st,F2,L1,_,_,rfl,?_,HS5,HV5,Lib.hid ?_,Lib.hid ?_,Lib.hid (take_all HKR.out),HZ5⟩
           ·rw [HKE.out];exact HW4
           ·have:=HC.out;have:=HK1.out;have:=HM3.out;simp at *;omega
           ·intro x hx
            rw [List.mem_cons] at hx
            rcases hx with rfl | hx
            ·exact HZI.out
            ·exact HI.out x hx
end Go.Proofs.Ytgbeliajhccndaa
end
