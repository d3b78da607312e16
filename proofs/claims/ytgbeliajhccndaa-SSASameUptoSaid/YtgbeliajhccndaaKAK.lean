/- Lemmas of this claim (YP,YQ,YR). -/
import Derived.Test.YtgbeliajhccndaaKAJ
import Derived.Test.YtgbeliajhccndaaKV
import Derived.Test.YtgbeliajhccndaaKAC
import Derived.Test.YtgbeliajhccndaaKJ
section
set_option linter.unusedVariables false
set_option linter.unusedSimpArgs false
namespace Go.Proofs.Ytgbeliajhccndaa
open Go.RowKit Go.Proofs.YtgbeliajhccndaaW.PrintWords Go.Proofs.YtgbeliajhccndaaW.PrintLast Go.Proofs.YtgbeliajhccndaaW.PrintMore PP
section
variable {fs:List S38} {mn:Int} {f:S38}
theorem fun_vals (h:funcB fs f = true):∀ v ∈ f.f3,qB fs f v = true:=by
 unfold funcB at h
 simp only [Bool.and_eq_true] at h
 exact List.all_eq_true.1 h.1.1.2
theorem fun_blks (h:funcB fs f = true):∀ b ∈ f.f4,blockB f b = true:=by
 unfold funcB at h
 simp only [Bool.and_eq_true] at h
 exact List.all_eq_true.1 h.2
theorem rng_of (h:funcB fs f = true):Rng f:=by
 have hv:=fun_vals h
 have hb:=fun_blks h
 have key:∀ b ∈ f.f4,b.f0.all (inB f.f3.length) = true ∧ b.f1.all (inB f.f3.length) = true ∧ b.f3.all (inB f.f4.length) = true ∧ b.f2.f2.all (inB f.f4.length) = true ∧ termB f b.f2 = true:=fun b hm=>by
  have h1:=hb b hm
  unfold blockB at h1
  simp only [Bool.and_eq_true] at h1
  exact ⟨h1.1.1.1.1.1,h1.1.1.1.1.2,h1.1.1.1.2,h1.1.1.2,h1.1.2⟩
 have hh:headB f = true:=by unfold funcB at h;simp only [Bool.and_eq_true] at h;exact h.1.1.1
 unfold headB at hh
 simp only [Bool.and_eq_true,decide_eq_true_eq] at hh
 refine ⟨hh.2,fun v hm=>?_,fun b hm=>(key b hm).1,fun b hm=>(key b hm).2.1,fun b hm=>(key b hm).2.2.1,fun b hm=>(key b hm).2.2.2.1,fun b hm=>?_,by omega⟩
 ·have h1:=hv v hm
  unfold qB at h1
  rw [Bool.and_eq_true] at h1
  exact h1.1
 ·rcases term_kind (key b hm).2.2.2.2 with h1 | h1
  ·omega
  ·exact h1.2.1
theorem ty_of (h:funcB fs f = true):∀ a,inB f.f3.length a = true → 0 ≤ typeOf f a:=fun a ha=>by
 obtain ⟨a0,a1⟩:=inB_iff ha
 exact (fit_shape (fun_vals h _ (mem_getD z42 (by omega)))).2.1
theorem way2_of (h:funcB fs f = true):∀ b ∈ f.f4,b.f2.f2.length ≤ 2:=fun b hm=>by
 have h1:=block_term (fun_blks h b hm)
 generalize b.f2 = t at *
 obtain ⟨k,v,l⟩:=t
 by_cases hk:1 ≤ k ∧ k ≤ 4
 ·rw [term_row hk,Bool.and_eq_true,beq_iff_eq] at h1
  have h2:=h1.1
  unfold wayI at h2
  show l.length ≤ 2
  by_cases e1:k = 1
  ·rw [if_pos e1] at h2;omega
  ·rw [if_neg e1] at h2
   by_cases e2:k = 2
   ·rw [if_pos e2] at h2;omega
   ·rw [if_neg e2] at h2;omega
 ·rw [term_k0 (by omega)] at h1
  exact absurd h1 (by decide)
theorem wah_of (h:Rng f) (hL:LimF f):WaH f:=by
 have hl:(waysL f).length = f.f4.length:=by simp [waysL]
 refine ⟨fun l hm=>?_,by rw [hl];exact hL.b,by rw [hl];exact h.blk⟩
 unfold waysL at hm
 obtain ⟨b,hb,rfl⟩:=List.mem_map.1 hm
 rw [hl]
 exact ⟨h.to_ b hb,(hL.q b hb).2.2.1⟩
theorem ways_nn (h:Rng f):∀ t ∈ waysL f,∀ c ∈ t,0 ≤ c:=fun t ht c hc=>by
 unfold waysL at ht
 obtain ⟨b,hb,rfl⟩:=List.mem_map.1 ht
 exact (inB_iff (List.all_eq_true.1 (h.to_ b hb) c hc)).1
theorem predsB_all {f:S38}:∀ (l:List S46) (i:Nat),predsB f i l = true ↔ ∀ j b,l[j]? = some b → predB f (i + j) b = true
 | [],i=>by simp [predsB]
 | b :: r,i=>by
   rw [predsB,Bool.and_eq_true,predsB_all r (i + 1)]
   constructor
   ·rintro ⟨h1,h2⟩ j c hj
    cases j with
    | zero=>simp at hj;subst hj;exact h1
    | succ j=>have:=h2 j c (by simpa using hj);rwa [show i + 1 + j = i + (j + 1) by omega] at this
   ·intro h
    refine ⟨h 0 b rfl,fun j c hj=>?_⟩
    have:=h (j + 1) c (by simpa using hj)
    rwa [show i + (j + 1) = i + 1 + j by omega] at this
theorem preds_iff (h:Rng f):rpredsB f = true ↔ predsE f = 0:=by
 have hE:predsE f = 0 ↔ predsB f 0 f.f4 = true:=by
  unfold predsE
  split
  ·rename_i h;simp [h]
  ·rename_i h;simp [h]
 rw [hE,predsB_all]
 unfold rpredsB
 rw [Bool.and_eq_true,List.all_eq_true,beq_iff_eq]
 have hp:=h.blk
 constructor
 ·rintro ⟨h1,h2⟩ j b hj
  have hjl:=(List.getElem?_eq_some_iff.1 hj).1
  have hb:f.f4.getD j z46 = b:=by rw [List.getD_eq_getElem?_getD,hj];rfl
  have h3:=of_decide_eq_true (h1 j (List.mem_range.2 hjl))
  rw [hb] at h3
  unfold predB
  rw [Nat.zero_add,leadOf_led hjl (ways_nn h),← h3,Bool.and_eq_true]
  refine ⟨?_,by simp⟩
  by_cases e:j = 0
  ·subst e
   rw [hb] at h2
   have:b.f3.length = 0:=by omega
   rw [this];rfl
  ·have:(j == 0) = false:=by simpa using e
   rw [this];rfl
 ·intro h1
  refine ⟨fun j hj=>?_,?_⟩
  ·have hjl:=List.mem_range.1 hj
   have h3:=h1 j (f.f4.getD j z46) (by rw [List.getD_eq_getElem?_getD,List.getElem?_eq_getElem hjl];rfl)
   unfold predB at h3
   rw [Nat.zero_add,leadOf_led hjl (ways_nn h),Bool.and_eq_true,beq_iff_eq] at h3
   exact decide_eq_true h3.2
  ·have h3:=h1 0 (f.f4.getD 0 z46) (by rw [List.getD_eq_getElem?_getD,List.getElem?_eq_getElem hp];rfl)
   unfold predB at h3
   rw [Bool.and_eq_true] at h3
   have h4:=h3.1
   simp at h4
   simp [h4]
structure Same1 (n:Nat) (s t:Tri):Prop where
 ls:LenT n s
 lt:LenT n t
 tm:s.2.2 = t.2.2
 eq:∀ v,v < n → (s.1.getD v 0 = t.1.getD v 0 ∧ s.2.1.getD v 0 = t.2.1.getD v 0) ∨ s.2.2.getD v 0 = 0
theorem Same1.put {n:Nat} {s t:Tri} (h:Same1 n s t) {v:Int} (hv:inB n v = true) (b k:Int):Same1 n (put3 s v b k) (put3 t v b k):=by
 obtain ⟨v0,v1⟩:=inB_iff hv
 obtain ⟨a1,a2,a3⟩:=h.ls
 obtain ⟨b1,b2,b3⟩:=h.lt
 refine ⟨put3_len h.ls v b k,put3_len h.lt v b k,by unfold put3;dsimp only;rw [h.tm],fun u hu=>?_⟩
 unfold put3
 dsimp only
 rw [getD_set (by omega),getD_set (by omega),getD_set (by omega),getD_set (by omega),getD_set (by omega)]
 by_cases e:u = v.toNat
 ·left
  rw [if_pos e,if_pos e,if_pos e,if_pos e]
  exact ⟨rfl,rfl⟩
 ·rw [if_neg e,if_neg e,if_neg e,if_neg e,if_neg e]
  exact h.eq u hu
theorem Same1.putL {n:Nat} {b:Int}:∀ (l:List Int) {s t:Tri},Same1 n s t → l.all (inB n) = true → Same1 n (putL b s l) (putL b t l)
 | [],_,_,h,_=>h
 | v :: r,s,t,h,hl=>by
   rw [List.all_cons,Bool.and_eq_true] at hl
   exact Same1.putL r (h.put hl.1 b (-1)) hl.2
theorem Same1.putK {n:Nat} {b:Int}:∀ (l:List Int) {s t:Tri} {k:Int},Same1 n s t → l.all (inB n) = true → Same1 n (putK b s k l) (putK b t k l)
 | [],_,_,_,h,_=>h
 | v :: r,s,t,k,h,hl=>by
   rw [List.all_cons,Bool.and_eq_true] at hl
   exact Same1.putK r (h.put hl.1 b k) hl.2
theorem Same1.putBs {n:Nat}:∀ (l:List S46) {s t:Tri} {i:Int},Same1 n s t → (∀ b ∈ l,b.f0.all (inB n) = true ∧ b.f1.all (inB n) = true) → Same1 n (putBs s i l) (putBs t i l)
 | [],_,_,_,h,_=>h
 | b :: r,s,t,i,h,hl=>by
   obtain ⟨h0,h1⟩:=hl b (by simp)
   exact Same1.putBs r ((h.putL b.f0 h0).putK b.f1 h1) (fun c hc=>hl c (by simp [hc]))
theorem same_of (h:Rng f):Same1 f.f3.length (rplT f) (onceT f):=by
 unfold rplT onceT
 refine Same1.putBs f.f4 (Same1.putL f.f1 ⟨⟨by simp [iniT],by simp [iniT],by simp [iniT]⟩,⟨by simp [zeros],by simp [zeros],by simp [zeros]⟩,rfl,fun v hv=>.inr ?_⟩ h.par) (fun b hb=>⟨h.phi b hb,h.bod b hb⟩)
 simp [iniT,List.getD_eq_getElem?_getD,hv]
def Wh (n m:Nat) (s:Tri):Prop:=LenT n s ∧ ∀ v,v < n → s.2.2.getD v 0 = 0 ∨ s.1.getD v 0 = -1 ∨ (0 ≤ s.1.getD v 0 ∧ s.1.getD v 0 < (m:Int))
theorem Wh.put {n m:Nat} {s:Tri} (h:Wh n m s) {v:Int} (hv:inB n v = true) {b:Int} (hb:b = -1 ∨ (0 ≤ b ∧ b < (m:Int))) (k:Int):Wh n m (put3 s v b k):=by
 obtain ⟨v0,v1⟩:=inB_iff hv
 obtain ⟨⟨a1,a2,a3⟩,he⟩:=h
 refine ⟨put3_len ⟨a1,a2,a3⟩ v b k,fun u hu=>?_⟩
 unfold put3
 dsimp only
 rw [getD_set (by omega),getD_set (by omega)]
 by_cases e:u = v.toNat
 ·right
  rw [if_pos e]
  exact hb
 ·rw [if_neg e,if_neg e]
  exact he u hu
theorem Wh.putL {n m:Nat} {b:Int} (hb:b = -1 ∨ (0 ≤ b ∧ b < (m:Int))):∀ (l:List Int) {s:Tri},Wh n m s → l.all (inB n) = true → Wh n m (putL b s l)
 | [],_,h,_=>h
 | v :: r,s,h,hl=>by
   rw [List.all_cons,Bool.and_eq_true] at hl
   exact Wh.putL hb r (h.put hl.1 hb (-1)) hl.2
theorem Wh.putK {n m:Nat} {b:Int} (hb:b = -1 ∨ (0 ≤ b ∧ b < (m:Int))):∀ (l:List Int) {s:Tri} {k:Int},Wh n m s → l.all (inB n) = true → Wh n m (putK b s k l)
 | [],_,_,h,_=>h
 | v :: r,s,k,h,hl=>by
   rw [List.all_cons,Bool.and_eq_true] at hl
   exact Wh.putK hb r (h.put hl.1 hb k) hl.2
theorem Wh.putBs {n m:Nat}:∀ (l:List S46) {s:Tri} {i:Int},0 ≤ i → i + l.length ≤ (m:Int) → Wh n m s → (∀ b ∈ l,b.f0.all (inB n) = true ∧ b.f1.all (inB n) = true) → Wh n m (putBs s i l)
 | [],_,_,_,_,h,_=>h
 | b :: r,s,i,hi,hm,h,hl=>by
   obtain ⟨h0,h1⟩:=hl b (by simp)
   rw [List.length_cons] at hm
   exact Wh.putBs r (by omega) (by omega) ((h.putL (.inr ⟨hi,by omega⟩) b.f0 h0).putK (.inr ⟨hi,by omega⟩) b.f1 h1) (fun c hc=>hl c (by simp [hc]))
theorem wh_of (h:Rng f):Wh f.f3.length f.f4.length (rplT f):=by
 unfold rplT
 refine Wh.putBs f.f4 (by omega) (by omega) (Wh.putL (.inl rfl) f.f1 ⟨⟨by simp [iniT],by simp [iniT],by simp [iniT]⟩,fun v hv=>.inl ?_⟩ h.par) (fun b hb=>⟨h.phi b hb,h.bod b hb⟩)
 simp [iniT,List.getD_eq_getElem?_getD,hv]
theorem once_iff (h:Rng f):(rplT f).2.2.all (fun x=>x == 1) = true ↔ onceE f = 0:=by
 rw [(same_of h).tm]
 unfold onceE
 split
 ·rename_i e;simp [e]
 ·rename_i e;simp [e]
theorem usH_of (h:Rng f) (ho:onceE f = 0) (hF:Facts f) (hr:∀ x,inB (waysL f).length x = true → Way (waysL f) (-1) x):UsH f:=by
 have hl:(waysL f).length = f.f4.length:=by simp [waysL]
 have hS:=same_of h
 have hW:=wh_of h
 have h1:=(once_iff h).2 ho
 have key:∀ v,inB f.f3.length v = true → (rplT f).2.2.getD v.toNat 0 = 1:=fun v hv=>by
  obtain ⟨v0,v1⟩:=inB_iff hv
  have hlen:=hS.ls.2.2
  have:=List.all_eq_true.1 h1 _ (mem_getD (l:=(rplT f).2.2) (i:=v.toNat) 0 (by omega))
  simpa using this
 have kw:∀ v,inB f.f3.length v = true → whR f v = whereV f v ∧ atR f v = atV f v:=fun v hv=>by
  obtain ⟨v0,v1⟩:=inB_iff hv
  rcases hS.eq v.toNat (by omega) with e | e
  ·exact e
  ·rw [key v hv] at e
   exact absurd e (by decide)
 have kr:∀ v,inB f.f3.length v = true → whR f v = -1 ∨ inB (waysL f).length (whR f v) = true:=fun v hv=>by
  obtain ⟨v0,v1⟩:=inB_iff hv
  rcases hW.2 v.toNat (by omega) with e | e | e
  ·rw [key v hv] at e
   exact absurd e (by decide)
  ·exact .inl e
  ·right
   rw [hl]
   simp [inB,whR]
   exact e
 refine ⟨fun v hv=>kw v hv,kr,fun v b hv hb=>?_⟩
 obtain ⟨e1,_⟩:=kw v hv
 have hw:whereV f v < ((waysL f).length:Int):=by
  rcases kr v hv with e | e
  ·rw [← e1,e];omega
  ·rw [← e1];exact (inB_iff e).2
 rw [Bool.eq_iff_iff,seen_iff hF hr hb hw]
 unfold endR
 rw [Bool.or_eq_true,beq_iff_eq,dmB_iff,e1]
 constructor
 ·rintro (h0 | h0)
  ·left
   rcases kr v hv with e | e
   ·rw [← e1];exact e
   ·have:=(inB_iff e).1;omega
  ·exact .inr h0
 ·rintro (h0 | h0)
  ·left;omega
  ·exact .inr h0
end
end Go.Proofs.Ytgbeliajhccndaa
end
section
set_option linter.unusedVariables false
set_option linter.unusedSimpArgs false
namespace Go.Proofs.Ytgbeliajhccndaa
open Go.RowKit Go.Proofs.YtgbeliajhccndaaW.PrintWords Go.Proofs.YtgbeliajhccndaaW.PrintLast Go.Proofs.YtgbeliajhccndaaW.PrintMore PP
section
variable {fs:List S38} {mn:Int} {f:S38}
theorem fE1 (h:predsE f ≠ 0):funcE (dOf fs mn f) = 91:=by
 have:predsE f = 91:=by unfold predsE at h ⊢;split <;> simp_all
 unfold funcE
 show (if predsE f ≠ 0 then predsE f else _) = 91
 rw [if_pos h,this]
theorem fE2 (h1:predsE f = 0) (h:reachE (dOf fs mn f) (lineK f) ≠ 0):funcE (dOf fs mn f) = 92:=by
 have:reachE (dOf fs mn f) (lineK f) = 92:=by unfold reachE at h ⊢;split <;> simp_all
 unfold funcE
 show (if predsE f ≠ 0 then predsE f else if reachE (dOf fs mn f) (lineK f) ≠ 0 then reachE (dOf fs mn f) (lineK f) else _) = 92
 rw [if_neg (by simp [h1]),if_pos h,this]
theorem fE3 (h1:predsE f = 0) (h2:reachE (dOf fs mn f) (lineK f) = 0) (h:phisE f ≠ 0):funcE (dOf fs mn f) = 93:=by
 have:phisE f = 93:=by unfold phisE at h ⊢;split <;> simp_all
 unfold funcE
 show (if predsE f ≠ 0 then predsE f else if reachE (dOf fs mn f) (lineK f) ≠ 0 then reachE (dOf fs mn f) (lineK f) else if phisE f ≠ 0 then phisE f else _) = 93
 rw [if_neg (by simp [h1]),if_neg (by simp [h2]),if_pos h,this]
theorem fE4 (h1:predsE f = 0) (h2:reachE (dOf fs mn f) (lineK f) = 0) (h3:phisE f = 0) (h:onceE f ≠ 0):funcE (dOf fs mn f) = 94:=by
 have:onceE f = 94:=by unfold onceE at h ⊢;split <;> simp_all
 unfold funcE
 show (if predsE f ≠ 0 then predsE f else if reachE (dOf fs mn f) (lineK f) ≠ 0 then reachE (dOf fs mn f) (lineK f) else if phisE f ≠ 0 then phisE f else if onceE f ≠ 0 then onceE f else _) = 94
 rw [if_neg (by simp [h1]),if_neg (by simp [h2]),if_neg (by simp [h3]),if_pos h,this]
theorem fE5 (h1:predsE f = 0) (h2:reachE (dOf fs mn f) (lineK f) = 0) (h3:phisE f = 0) (h4:onceE f = 0):funcE (dOf fs mn f) = if typesB (dOf fs mn f) = true then (if usesB f (usK f) 0 f.f4 = true then 0 else 96) else 95:=by
 unfold funcE
 show (if predsE f ≠ 0 then predsE f else if reachE (dOf fs mn f) (lineK f) ≠ 0 then reachE (dOf fs mn f) (lineK f) else if phisE f ≠ 0 then phisE f else if onceE f ≠ 0 then onceE f else if typesE (dOf fs mn f) ≠ 0 then typesE (dOf fs mn f) else usesE f (usK f)) = _
 rw [if_neg (by simp [h1]),if_neg (by simp [h2]),if_neg (by simp [h3]),if_neg (by simp [h4])]
 unfold typesE usesE
 by_cases ht:typesB (dOf fs mn f) = true
 ·rw [if_pos ht,if_neg (by simp),if_pos ht]
 ·rw [if_neg ht,if_pos (by decide),if_neg ht]
end
structure CkH (fs:List S38) (f:S38):Prop where
 fb:funcB fs f = true
 lim:LimF f
 blk:f.f4.length ≤ 400000
 par:∀ h ∈ fs,h.f1.all (inB h.f3.length) = true
theorem CkH.facts {fs:List S38} {f:S38} (h:CkH fs f):Facts f:=by
 have hr:=rng_of h.fb
 have hl:(waysL f).length = f.f4.length:=by simp [waysL]
 refine facts_ok ?_ (by rw [hl];exact h.blk)
 unfold goodB
 rw [Bool.and_eq_true,List.all_eq_true]
 exact ⟨fun l hm=>((wah_of hr h.lim).all l hm).1,by rw [hl];exact decide_eq_true hr.blk⟩
theorem term_all {fs:List S38} {f:S38} (h:funcB fs f = true):∀ b ∈ f.f4,termB f b.f2 = true:=fun b hb=>block_term (fun_blks h b hb)
set_option maxRecDepth 100000 in
set_option maxHeartbeats 4000000 in
theorem rcheck_any (fs:List S38) (mn:Int) (A:Option Addr) (c:Nat) (f:S38) (A1:Option Addr) (c1:Nat) (A3:Option Addr) (c3:Nat) (A4:Option Addr) (c4:Nat) (w:World)
 (hfs:k38.C w A fs.length fs) (hc:fs.length ≤ c) (hf:FA w f A1 c1 A3 c3 A4 c4) (hH:CkH fs f) :
 Calls Try.prog 28 #[.agg #[.slice A fs.length c,.int .i64 mn],.agg #[.string f.f0,.slice A1 f.f1.length c1,.int .i64 f.f2,.slice A3 f.f3.length c3,.slice A4 f.f4.length c4]] w fun e W=>e = .returned (.int .i64 (funcE (dOf fs mn f))) ∧ Hid (Below w.heap.size w W):=by
 obtain ⟨E,hE⟩:∃ E,E = funcE (dOf fs mn f):=⟨_,rfl⟩
 have HE:=Lib.hid hE
 rw [← hE]
 have HH:=Lib.hid hH
 have HR:=Lib.hid (rng_of hH.fb)
 have HWA:=Lib.hid (wah_of HR.out hH.lim)
 have HFC:=Lib.hid hH.facts
 have HC:=Lib.hid hc
 have HFS:=Lib.hid hfs
 have HFA:=Lib.hid hf
 clear hfs hf hH hc hE
 go_enter Try.func28,Try.ntmps28
 go_upto_region 1 with (fail)
 obtain ⟨w1,hw1⟩:∃ w1,w1 = ((w.alloc (.cells #[.slice A fs.length c,.int .i64 mn] 24)).alloc (.cells #[.string f.f0,.slice A1 f.f1.length c1,.int .i64 f.f2,.slice A3 f.f3.length c3,.slice A4 f.f4.length c4] 38)):=⟨_,rfl⟩
 obtain ⟨g2,hg2⟩:∃ g,g = w.heap.size:=⟨_,rfl⟩
 obtain ⟨g3,hg3⟩:∃ g,g = w.heap.size + 1:=⟨_,rfl⟩
 have hbx:=box2_blk w (.cells #[.slice A fs.length c,.int .i64 mn] 24) (.cells #[.string f.f0,.slice A1 f.f1.length c1,.int .i64 f.f2,.slice A3 f.f3.length c3,.slice A4 f.f4.length c4] 38)
 have hB:Below w.heap.size w w1:=by rw [hw1];exact box2_below _ _
 rw [← hg3,← hg2,← hw1] at hbx
 rw [← hg3,← hg2,← hw1]
 have HBX:=Lib.hid hbx
 have HB:=Lib.hid hB
 have HF1:=Lib.hid (HFA.out.below hB)
 have HS1:=Lib.hid (Kd.C_below HFS.out hB)
 clear hw1 hg2 hg3 hbx hB HFA HFS
 have HPR:=Lib.hid (rpreds_any f A1 c1 A3 c3 A4 c4 w1 HF1.out HH.out.lim (way2_of HH.out.fb) HR.out.blk)
 obtain ⟨y0,y1,y2,y3,y4⟩:=S5_blk HBX.out.2
 obtain ⟨pb,hpb⟩:∃ pb,pb = rpredsB f:=⟨_,rfl⟩
 rw [← hpb] at HPR
 have HPB:Hid (pb = true ↔ predsE f = 0):=Lib.hid (by rw [hpb];exact preds_iff HR.out)
 clear hpb
 go_upto_if 11 with (first | (go_at_call 52;with_reducible refine Calls.mono HPR.out ?_;rintro e w2 ⟨rfl,HB2⟩) | (go_at_call 52;refine stop_intro ?_))
 clear y0 y1 y2 y3 y4 HPR
 cases pb with
 | false=>
   have HZ:Hid ((91:Int) = E):=Lib.hid (by rw [HE.out,fE1 (fun e=>by have:=HPB.out.2 e;cases this)])
   go_wp2_with (fail)
   go_ret
   exact ⟨ret_i HZ.out,Lib.hid (below_then HB.out HB.out.size HB2.out)⟩
 | true=>
   have HE1:=Lib.hid (HPB.out.1 rfl)
   clear HPB
   have HWY:=Lib.hid (rWays_any f A1 c1 A3 c3 A4 c4 w1 w2 HF1.out HB2.out HH.out.lim)
   obtain ⟨S,hP,hEv⟩:=reach_ev (ts:=waysL f) rfl HWA.out.n HWA.out.pos HWA.out.all
   have HPS:=Lib.hid hP
   obtain ⟨K,hK⟩:=hEv
   have HRC:Hid (∀ (W:World) (A':Option Addr) (c':Nat) (hs:List Hd),Below w1.heap.size w1 W → kH.R 34 W w2.heap.size (fun _=>True) (.slice A' (waysL f).length c') hs → Rows_ w1 hs (waysL f) → Calls Try.prog 53 #[.slice A' (waysL f).length c'] W fun e w'=>∃ B d,e = .returned (.slice B S.length d) ∧ Hid (Kd.bool.R 4 w' W.heap.size (fun _=>True) (.slice B S.length d) S) ∧ Hid (Below W.heap.size W w')):=Lib.hid (fun W A' c' hs hW hRR hRo=>by
    obtain ⟨_,k2,k3⟩:=Kd.R_reads' hRR
    have hll:=hRo.1
    rw [hll] at k3
    refine (quernref8_Reach.calls K A' c' (waysL f) S W (rows_C (by rw [hll];exact k3) (hRo.below hW)) k2 (hK K (Nat.le_refl _))).mono ?_
    rintro e w' ⟨v0,rfl,h1,h2⟩
    obtain ⟨B,d,e'⟩:=Kd.R_slice h1
    subst e'
    exact ⟨B,d,rfl,Lib.hid h1,Lib.hid h2⟩)
   obtain ⟨y0,y1,y2,y3,y4⟩:=S5_blk (blkB HB2.out HBX.out.2)
   clear hP hK
   go_upto_region 4 with (first | (go_at_call 54;with_reducible refine Calls.mono HWY.out ?_;rintro e w3 ⟨A',c',hs,rfl,HHR,HRO,HB3⟩) | (go_at_call 53;with_reducible refine Calls.mono (HRC.out _ _ _ hs (below_then HB2.out HB2.out.size HB3.out) HHR.out HRO.out) ?_;rintro e w4 ⟨B,d,rfl,HSR,HB4⟩) | (go_at_call 54;refine stop_intro ?_) | (go_at_call 53;refine stop_intro ?_))
   have HBa:=Lib.hid (below_then (below_then HB2.out HB2.out.size HB3.out) (below_then HB2.out HB2.out.size HB3.out).size HB4.out)
   clear y0 y1 y2 y3 y4 HWY HRC HB2 HB3 HB4 HHR HRO
   go_wp2_with (fail)
   go_loopg [6] S.length (fun k v wr=>∃ i:Nat,i ≤ S.length ∧ v = .int .i64 i ∧ Hid (i + k = S.length) ∧ Hid (S.all id = (S.drop i).all id) ∧ Hid (Below w4.heap.size w4 wr))
   case atStart=>exact ⟨0,by omega,rfl,Lib.hid (by omega),Lib.hid (by simp),Lib.hid (Below.refl _ _)⟩
   case round=>
    obtain ⟨i,hi,rfl,HI,HP,HBr⟩:=hrel
    have HBb:=Lib.hid (below_then HBa.out HBa.out.size HBr.out)
    by_cases hlt:i < S.length
    ·obtain ⟨ad,eA,hx⟩:=Kd.at_bool (Kd.C_below (Kd.R_reads' HSR.out).2.2 HBr.out) (i:Int) (by omega) (by omega)
     have hxe:rdOf false S (i:Int) = S.getD i false:=by simp [rdOf]
     rw [Int.toNat_natCast,hxe] at hx
     have HST:=Lib.hid (all_stop (p:=id) (d:=false) hlt HP.out)
     have HNX:=Lib.hid (all_next (p:=id) (d:=false) hlt HP.out)
     clear hxe
     generalize S.getD i false = sb at *
     have hvb:S.length ≤ 1000000000:=by have:=HPS.out.1;have:=HWA.out.n;omega
     subst eA
     cases sb with
     | false=>
       have HZ:Hid ((92:Int) = E):=Lib.hid (by
        rw [HE.out,fE2 HE1.out (fun e=>?_)]
        have h1:=(reachE_iff (d:=dOf fs mn f) HFC.out).1 e
        have h2:=HPS.out.all.2 h1
        rw [HST.out rfl] at h2
        cases h2)
       go_wp2_with (fail)
       go_ret
       exact ⟨ret_i HZ.out,Lib.hid (below_then HB.out HB.out.size HBb.out)⟩
     | true=>
       go_wp2_with (fail)
       go_roundg (gk - 1)
       case measure=>have:=HI.out;omega
       case rel=>exact ⟨i + 1,by omega,by go_num,Lib.hid (by have:=HI.out;omega),Lib.hid (HNX.out rfl),HBr⟩
    ·have hie:i = S.length:=by omega
     subst hie
     have HALL:Hid (S.all id = true):=Lib.hid (by rw [HP.out,List.drop_eq_nil_of_le (by omega)];rfl)
     have HWAY:=Lib.hid (HPS.out.all.1 HALL.out)
     have HE2:=Lib.hid ((reachE_iff (d:=dOf fs mn f) HFC.out).2 HWAY.out)
     clear hlt hi HI HP HALL
     have HPH:=Lib.hid (rphis_any f A1 c1 A3 c3 A4 c4 wr (HF1.out.below HBb.out) HH.out.lim HR.out)
     obtain ⟨fb,hfb⟩:∃ fb,fb = phisB f:=⟨_,rfl⟩
     rw [← hfb] at HPH
     have HFB:Hid (fb = true ↔ phisE f = 0):=Lib.hid (by rw [hfb];exact phisB_E f)
     obtain ⟨y0,y1,y2,y3,y4⟩:=S5_blk (blkB HBb.out HBX.out.2)
     clear hfb
     go_upto_if 28 with (first | (go_at_call 55;with_reducible refine Calls.mono HPH.out ?_;rintro e w5 ⟨rfl,HB5⟩) | (go_at_call 55;refine stop_intro ?_))
     have HBc:=Lib.hid (below_then HBb.out HBb.out.size HB5.out)
     clear y0 y1 y2 y3 y4 HPH HB5 HBb HBr HSR
     cases fb with
     | false=>
       have HZ:Hid ((93:Int) = E):=Lib.hid (by rw [HE.out,fE3 HE1.out HE2.out (fun e=>by have:=HFB.out.2 e;cases this)])
       go_wp2_with (fail)
       go_ret
       exact ⟨ret_i HZ.out,Lib.hid (below_then HB.out HB.out.size HBc.out)⟩
     | true=>
       have HE3:=Lib.hid (HFB.out.1 rfl)
       clear HFB
       have HPL:=Lib.hid (rPlaces_any f A1 c1 A3 c3 A4 c4 w5 (HF1.out.below HBc.out) HH.out.lim HR.out)
       obtain ⟨y0,y1,y2,y3,y4⟩:=S5_blk (blkB HBc.out HBX.out.2)
       go_upto_region 12 with (first | (go_at_call 56;with_reducible refine Calls.mono HPL.out ?_;rintro e w6 ⟨gp,rfl,_,HPW,HB6⟩) | (go_at_call 56;refine stop_intro ?_))
       have HBd:=Lib.hid (below_then HBc.out HBc.out.size HB6.out)
       obtain ⟨T,hT⟩:∃ T,T = (rplT f).2.2:=⟨_,rfl⟩
       have HT:=Lib.hid hT
       have HTL:Hid (T.length = f.f3.length):=Lib.hid (by rw [hT];exact HPW.out.l3)
       clear y0 y1 y2 y3 y4 HPL HB6 HBc hT
       generalize gk = go1 at *
       go_wp2_with (fail)
       go_loopg [8] f.f3.length (fun k v wr=>∃ i:Nat,i ≤ f.f3.length ∧ v = .int .i64 i ∧ Hid (i + k = f.f3.length) ∧ Hid (T.all (fun x=>x == 1) = (T.drop i).all (fun x=>x == 1)) ∧ Hid (Below w6.heap.size w6 wr))
       case atStart=>exact ⟨0,by omega,rfl,Lib.hid (by omega),Lib.hid (by simp),Lib.hid (Below.refl _ _)⟩
       case round=>
        obtain ⟨i,hi,rfl,HI,HP,HBr⟩:=hrel
        have HBe:=Lib.hid (below_then HBd.out HBd.out.size HBr.out)
        by_cases hlt:i < f.f3.length
        ·have hlT:i < T.length:=by have:=HTL.out;omega
         obtain ⟨z0,z1,z2⟩:=(HPW.out.below HBr.out).cell hlt
         have HST:=Lib.hid (all_stop (p:=fun x=>x == 1) (d:=(0:Int)) hlT HP.out)
         have HNX:=Lib.hid (all_next (p:=fun x=>x == 1) (d:=(0:Int)) hlT HP.out)
         rw [← HT.out] at z2
         generalize T.getD i 0 = x at *
         have hvb:=HH.out.lim.v
         clear z0 z1
         by_cases hx:x = 1
         ·have e1:(x != 1) = false:=by simp [hx]
          have HZ:=Lib.hid (HNX.out (by simp [hx]))
          clear hx
          go_wp2_with (fail)
          go_roundg (gk - 1)
          case measure=>have:=HI.out;omega
          case rel=>exact ⟨i + 1,by omega,by go_num,Lib.hid (by have:=HI.out;omega),HZ,HBr⟩
         ·have e1:(x != 1) = true:=by simp [hx]
          have HZ:Hid ((94:Int) = E):=Lib.hid (by
           rw [HE.out,fE4 HE1.out HE2.out HE3.out (fun e=>?_)]
           have h2:=(once_iff HR.out).2 e
           rw [← HT.out,HST.out (by simp [hx])] at h2
           cases h2)
          clear hx
          go_wp2_with (fail)
          go_ret
          exact ⟨ret_i HZ.out,Lib.hid (below_then HB.out HB.out.size HBe.out)⟩
        ·have hie:i = f.f3.length:=by omega
         have HALL:Hid (T.all (fun x=>x == 1) = true):=Lib.hid (by rw [HP.out,List.drop_eq_nil_of_le (by have:=HTL.out;omega)];rfl)
         subst hie
         have HE4:=Lib.hid ((once_iff HR.out).1 (by rw [← HT.out];exact HALL.out))
         clear hlt hi HI HP HALL
         have HUS:=Lib.hid (usH_of HR.out HE4.out HFC.out HWAY.out)
         have HE5:=Lib.hid (fE5 (fs:=fs) (mn:=mn) HE1.out HE2.out HE3.out HE4.out)
         rw [← HE.out] at HE5
         have HTY:=Lib.hid (rtypes_any fs mn A c f A1 c1 A3 c3 A4 c4 wr (Kd.C_below HS1.out HBe.out) HC.out (HF1.out.below HBe.out) HH.out.lim (fun_vals HH.out.fb) (ty_of HH.out.fb) HH.out.par (term_all HH.out.fb))
         obtain ⟨tb,htb⟩:∃ tb,tb = typesB (dOf fs mn f):=⟨_,rfl⟩
         rw [← htb] at HTY HE5
         obtain ⟨y0,y1,y2,y3,y4⟩:=S5_blk (blkB HBe.out HBX.out.2)
         obtain ⟨s0,s1⟩:=S2_blk (blkB HBe.out HBX.out.1)
         clear htb
         go_upto_if 46 with (first | (go_at_call 57;with_reducible refine Calls.mono HTY.out ?_;rintro e w7 ⟨rfl,HB7⟩) | (go_at_call 57;refine stop_intro ?_))
         have HBf:=Lib.hid (below_then HBe.out HBe.out.size HB7.out)
         clear y0 y1 y2 y3 y4 s0 s1 HTY HB7 HBe HBr
         cases tb with
         | false=>
           have HZ:Hid ((95:Int) = E):=Lib.hid (by rw [HE5.out];rfl)
           go_wp2_with (fail)
           go_ret
           exact ⟨ret_i HZ.out,Lib.hid (below_then HB.out HB.out.size HBf.out)⟩
         | true=>
           have HUU:=Lib.hid (ruses_any f A1 c1 A3 c3 A4 c4 w7 (HF1.out.below HBf.out) HH.out.lim HR.out HWA.out HUS.out HE3.out)
           obtain ⟨ub,hub⟩:∃ ub,ub = usesB f (usK f) 0 f.f4:=⟨_,rfl⟩
           rw [← hub] at HUU HE5
           obtain ⟨y0,y1,y2,y3,y4⟩:=S5_blk (blkB HBf.out HBX.out.2)
           clear hub
           go_upto_if 49 with (first | (go_at_call 58;with_reducible refine Calls.mono HUU.out ?_;rintro e w8 ⟨rfl,HB8⟩) | (go_at_call 58;refine stop_intro ?_))
           have HBg:=Lib.hid (below_then HBf.out HBf.out.size HB8.out)
           clear y0 y1 y2 y3 y4 HUU HB8 HBf
           cases ub with
           | false=>
             have HZ:Hid ((96:Int) = E):=Lib.hid (by rw [HE5.out];rfl)
             go_wp2_with (fail)
             go_ret
             exact ⟨ret_i HZ.out,Lib.hid (below_then HB.out HB.out.size HBg.out)⟩
           | true=>
             have HZ:Hid ((0:Int) = E):=Lib.hid (by rw [HE5.out];rfl)
             go_wp2_with (fail)
             go_ret
             exact ⟨ret_i HZ.out,Lib.hid (below_then HB.out HB.out.size HBg.out)⟩
end Go.Proofs.Ytgbeliajhccndaa
end
section
set_option linter.unusedVariables false
set_option linter.unusedSimpArgs false
namespace Go.Proofs.Ytgbeliajhccndaa
open Go.RowKit Go.Proofs.YtgbeliajhccndaaW.PrintWords Go.Proofs.YtgbeliajhccndaaW.PrintLast Go.Proofs.YtgbeliajhccndaaW.PrintMore PP
open Lex (cls strOk strL skipL tokAt nameAt numberAt signAt nameTok wordK wordFrom wordsL Tok lexFrom lexAll)
def chB:List Int → Bool
 | []=>true
 | c :: r=>decide (cls c = 3) && r.all (strOk true)
def docB (s:ByteArray):Bool:=decide (wordK s = 1) && (chB (bytesOf s) && (decide (1 ≤ s.size) && decide (s.size ≤ 64)))
theorem bytesOf_nums' {xs:List Int} (h:∀ c ∈ xs,0 ≤ c ∧ c ≤ 255):bytesOf (strOfNums xs) = xs:=by
 unfold bytesOf strOfNums
 simp only [List.map_map]
 conv=>rhs;rw [← List.map_id xs]
 refine List.map_congr_left (fun c hc=>?_)
 have:=h c hc
 simp
 omega
theorem nums_bytes (s:ByteArray):strOfNums (bytesOf s) = s:=by
 unfold strOfNums bytesOf
 rw [List.map_map]
 have:s.data.toList.map ((fun n:Int=>UInt8.ofNat n.toNat) ∘ fun b=>(b.toNat:Int)) = s.data.toList:=by
  conv=>rhs;rw [← List.map_id s.data.toList]
  refine List.map_congr_left (fun c _=>?_)
  show UInt8.ofNat ((c.toNat:Int)).toNat = c
  rw [Int.toNat_natCast]
  simp
 rw [this]
theorem bytes_mem (s:ByteArray):∀ c ∈ bytesOf s,0 ≤ c ∧ c ≤ 255:=fun c hc=>by
 unfold bytesOf at hc
 obtain ⟨b,_,rfl⟩:=List.mem_map.1 hc
 have:=b.toNat_lt
 omega
theorem takeW_all {p:Int → Bool}:∀ {l:List Int},l.all p = true → l.takeWhile p = l
 | [],_=>rfl
 | c :: r,h=>by
   rw [List.all_cons,Bool.and_eq_true] at h
   rw [List.takeWhile_cons,if_pos h.1,takeW_all h.2]
theorem all_takeW {p:Int → Bool}:∀ {l:List Int},(l.takeWhile p).length = l.length → l.all p = true
 | [],_=>rfl
 | c :: r,h=>by
   rw [List.takeWhile_cons] at h
   by_cases hc:p c = true
   ·rw [if_pos hc] at h
    rw [List.all_cons,hc,all_takeW (by simpa using h)];rfl
   ·rw [if_neg hc] at h
    simp at h
theorem wordFrom_ge (s:ByteArray):∀ (r:List ByteArray) (k:Nat),wordFrom s r k = 1 ∨ 10 ≤ wordFrom s r k
 | [],k=>.inl rfl
 | x :: r,k=>by
   unfold wordFrom
   split
   ·right;omega
   ·exact wordFrom_ge s r (k + 1)
theorem doc_lex {s:ByteArray} (h:docB s = true):nameB s = true:=by
 unfold docB at h
 simp only [Bool.and_eq_true,decide_eq_true_eq] at h
 obtain ⟨hw,hc,h1,h2⟩:=h
 have hlen:=bytesOf_length s
 obtain ⟨l,hl⟩:∃ l,l = bytesOf s:=⟨_,rfl⟩
 rw [← hl] at hc hlen
 have hs:strOfNums l = s:=by rw [hl];exact nums_bytes s
 unfold nameB
 rw [← hl]
 cases l with
 | nil=>simp at hlen;omega
 | cons c r=>
   unfold chB at hc
   rw [Bool.and_eq_true,decide_eq_true_eq] at hc
   have hall:(c :: r).all (strOk true) = true:=by rw [List.all_cons,hc.2];simp [strOk,hc.1]
   have hstr:strL true (c :: r) = (c :: r).length:=by unfold Lex.strL;rw [takeW_all hall]
   have hsk:skipL false (c :: r) = (0,true):=by
    rw [Lex.skipL,if_neg (by rw [hc.1];decide),if_neg]
    rintro ⟨e,_⟩
    rw [e] at hc
    exact absurd hc.1 (by decide)
   have hrd:rd (c :: r) ((0:Nat):Int) = c:=rfl
   have htk:tokAt (c :: r) 0 = (⟨1,0,0,s⟩,0,(c :: r).length):=by
    unfold Lex.tokAt
    rw [hrd,if_pos hc.1]
    unfold Lex.nameAt
    rw [List.drop_zero,hstr,if_neg (by omega),List.take_length,hs]
    unfold Lex.nameTok
    rw [if_pos hw,Nat.zero_add]
    rfl
   have:lexAll (c :: r) = ([⟨1,0,0,s⟩],0,0):=by
    unfold Lex.lexAll
    rw [Lex.lexFrom,List.drop_zero,hsk,if_neg (by decide),if_neg (by simp),Nat.zero_add,htk,if_neg (by simp)]
    rw [List.length_cons,Lex.lexFrom,List.drop_of_length_le (by simp)]
    show (if (true:Bool) = false then _ else if (c :: r).length ≤ r.length + 1 + 0 then _ else _) = _
    rw [if_neg (by decide),if_pos (by simp)]
    rfl
   rw [this]
   simp [oneName]
theorem lex_doc {s:ByteArray} (h:nameB s = true):docB s = true:=by
 have hlen:=bytesOf_length s
 have hmem:=bytes_mem s
 obtain ⟨l,hl⟩:∃ l,l = bytesOf s:=⟨_,rfl⟩
 have hs:strOfNums l = s:=by rw [hl];exact nums_bytes s
 unfold nameB at h
 unfold docB
 rw [← hl] at h hlen hmem ⊢
 obtain ⟨out,place,err,hL⟩:∃ out place err,lexAll l = (out,place,err):=⟨_,_,_,rfl⟩
 rw [hL] at h
 unfold oneName at h
 dsimp only at h
 match out,h,hL with
 | [],h,_=>cases h
 | _ :: _ :: _,h,_=>cases h
 | [x],h,hL=>
   dsimp only at h
   simp only [Bool.and_eq_true,beq_iff_eq] at h
   obtain ⟨⟨h1,h2⟩,h3⟩:=h
   have hxs:x.name = s:=by
    have h4:=h3
    rw [ByteArray.toList_eq,ByteArray.toList_eq] at h4
    exact toList_inj h4
   have hI:Lex.LexIs l (l.length + 1) 0 [] [x] place err:=hL
   obtain ⟨t,ok,hst,_,htl⟩:=Lex.skip_to l 0 (by omega)
   cases ok with
   | false=>
     obtain ⟨e,_⟩:=Lex.lex_bad hI hst
     cases e
   | true=>
     by_cases ht:l.length ≤ t
     ·obtain ⟨e,_⟩:=Lex.lex_end hI hst ht
      cases e
     ·obtain ⟨y,er,q,hk⟩:∃ y er q,tokAt l t = (y,er,q):=⟨_,_,_,rfl⟩
      by_cases he:er = 0
      ·subst he
       have hN:=Lex.lex_next hI hst (by omega) hk
       have hpre:∀ (k p:Nat) (acc:List Tok),∃ r,(lexFrom l k p acc).1 = acc ++ r:=by
        intro k
        induction k with
        | zero=>intro p acc;exact ⟨[],by simp [Lex.lexFrom]⟩
        | succ k ih=>
          intro p acc
          rw [Lex.lexFrom]
          split
          ·exact ⟨[],by simp⟩
          ·split
           ·exact ⟨[],by simp⟩
           ·split
            ·exact ⟨[],by simp⟩
            ·obtain ⟨r,hr⟩:=ih _ (acc ++ [(tokAt l (p + (skipL false (l.drop p)).1)).1])
             exact ⟨(tokAt l (p + (skipL false (l.drop p)).1)).1 :: r,by rw [hr];simp⟩
       obtain ⟨r,hr⟩:=hpre l.length q ([] ++ [y])
       unfold Lex.LexIs at hN
       rw [hN] at hr
       have hxy:x = y:=by simp at hr;exact hr.1
       subst hxy
       have hln:0 < l.length:=by omega
       have hsn:¬ x.name = ⟨#[]⟩:=fun e=>by
        rw [hxs] at e
        rw [e] at hlen
        have:(⟨#[]⟩:ByteArray).size = 0:=rfl
        omega
       unfold Lex.tokAt at hk
       by_cases hc:cls (rd l (t:Int)) = 3
       ·rw [if_pos hc] at hk
        unfold Lex.nameAt at hk
        by_cases h64:64 < strL true (l.drop t)
        ·rw [if_pos h64] at hk
         obtain ⟨_,e,_⟩:=Lex.tri hk
         exact absurd e (by decide)
        ·rw [if_neg h64] at hk
         obtain ⟨e,_,_⟩:=Lex.tri hk
         obtain ⟨m,hm⟩:∃ m,m = strL true (l.drop t):=⟨_,rfl⟩
         rw [← hm] at e h64
         have hwk:wordK (strOfNums ((l.drop t).take m)) = 1:=by
          rcases wordFrom_ge (strOfNums ((l.drop t).take m)) wordsL 0 with e1 | e1
          ·exact e1
          ·have e1':10 ≤ wordK (strOfNums ((l.drop t).take m)):=e1
           unfold Lex.nameTok at e
           rw [if_neg (by omega)] at e
           rw [← e] at h2
           dsimp only at h2
           omega
         unfold Lex.nameTok at e
         rw [if_pos hwk] at e
         have hnm:strOfNums ((l.drop t).take m) = s:=by rw [← hxs,← e]
         have htk:(l.drop t).take m = l:=by
          have h5:=congrArg bytesOf hnm
          rw [bytesOf_nums' (fun c hc=>hmem c (List.mem_of_mem_drop (List.mem_of_mem_take hc))),← hl] at h5
          exact h5
         have hll:=congrArg List.length htk
         rw [List.length_take,List.length_drop] at hll
         have ht0:t = 0:=by omega
         subst ht0
         rw [List.drop_zero] at hm htk
         have hml:m = l.length:=by
          have:=congrArg List.length htk
          rw [List.length_take] at this
          have h6:strL true l ≤ l.length:=by unfold Lex.strL;exact Lex.strL_le true l
          omega
         have hall:l.all (strOk true) = true:=all_takeW (by unfold Lex.strL at hm;omega)
         rw [hml,List.drop_zero,List.take_length,hs] at hwk
         rw [decide_eq_true hwk,decide_eq_true (show 1 ≤ s.size by omega),decide_eq_true (show s.size ≤ 64 by omega)]
         cases l with
         | nil=>simp at hln
         | cons c r=>
           rw [List.all_cons,Bool.and_eq_true] at hall
           have hc':cls c = 3:=hc
           simp [chB,hc',hall.2]
       ·rw [if_neg hc] at hk
        exfalso
        by_cases hc2:cls (rd l (t:Int)) = 2
        ·rw [if_pos hc2] at hk
         unfold Lex.numberAt at hk
         by_cases e0:1 < strL false (l.drop t) ∧ rd l (t:Int) = 48
         ·rw [if_pos e0] at hk
          obtain ⟨_,e,_⟩:=Lex.tri hk
          exact absurd e (by decide)
         ·rw [if_neg e0] at hk
          cases hv:Lex.numFrom 0 ((l.drop t).take (strL false (l.drop t))) with
          | none=>rw [hv] at hk;obtain ⟨_,e,_⟩:=Lex.tri hk;exact absurd e (by decide)
          | some v=>rw [hv] at hk;obtain ⟨e,_,_⟩:=Lex.tri hk;rw [← e] at hsn;exact hsn rfl
        ·rw [if_neg hc2] at hk
         by_cases hc4:cls (rd l (t:Int)) = 4
         ·rw [if_pos hc4] at hk
          unfold Lex.signAt at hk
          split at hk
          ·obtain ⟨e,_,_⟩:=Lex.tri hk;rw [← e] at hsn;exact hsn rfl
          ·split at hk
           ·obtain ⟨_,e,_⟩:=Lex.tri hk;exact absurd e (by decide)
           ·obtain ⟨e,_,_⟩:=Lex.tri hk;rw [← e] at hsn;exact hsn rfl
         ·rw [if_neg hc4] at hk
          obtain ⟨_,e,_⟩:=Lex.tri hk
          exact absurd e (by decide)
      ·obtain ⟨e,_⟩:=Lex.lex_fault hI hst (by omega) hk he
       cases e
theorem doc_name (s:ByteArray):docB s = nameB s:=by
 rw [Bool.eq_iff_iff]
 exact ⟨doc_lex,lex_doc⟩
theorem nest_eq (c x5:Int) (A:Option Bool):(if c ≥ 97 then (if c ≤ 122 then A else (if c ≥ 65 then (if c ≤ 90 then A else (if (c = 95) then A else (if x5 = 0 then (some false) else (if c < 48 then (some false) else (if c > 57 then (some false) else A))))) else (if (c = 95) then A else (if x5 = 0 then (some false) else (if c < 48 then (some false) else (if c > 57 then (some false) else A)))))) else (if c ≥ 65 then (if c ≤ 90 then A else (if (c = 95) then A else (if x5 = 0 then (some false) else (if c < 48 then (some false) else (if c > 57 then (some false) else A))))) else (if (c = 95) then A else (if x5 = 0 then (some false) else (if c < 48 then (some false) else (if c > 57 then (some false) else A)))))) = if cls c = 3 then A else if x5 = 0 then some false else if cls c = 2 then A else some false:=by
 by_cases hl:c = 95 ∨ (97 ≤ c ∧ c ≤ 122) ∨ (65 ≤ c ∧ c ≤ 90)
 ·rw [if_pos (show cls c = 3 by unfold Lex.cls;rw [if_pos hl])]
  repeat' split
  all_goals first | rfl | (exfalso;omega)
 ·have h3:¬ cls c = 3:=by
   unfold Lex.cls
   rw [if_neg hl]
   intro h
   repeat' split at h
   all_goals exact absurd h (by decide)
  rw [if_neg h3]
  by_cases hd:48 ≤ c ∧ c ≤ 57
  ·have h2:cls c = 2:=by unfold Lex.cls;rw [if_neg hl,if_pos hd]
   rw [if_pos h2]
   repeat' split
   all_goals first | rfl | (exfalso;omega)
  ·have h2:¬ cls c = 2:=by
    unfold Lex.cls
    rw [if_neg hl,if_neg hd]
    intro h
    repeat' split at h
    all_goals exact absurd h (by decide)
   rw [if_neg h2]
   repeat' split
   all_goals first | rfl | (exfalso;omega)
theorem name_l1 (s:ByteArray) (hs:s.size ≤ 4000000000000):∀ m i:Nat,i + m = s.size → 0 < i → Ev (fun k=>quernref9_IsName.l1 k s (i:Int)) (((bytesOf s).drop i).all (strOk true) && (decide (1 ≤ s.size) && decide (s.size ≤ 64)))
 | 0,i,e,hi=>by
   rw [List.drop_of_length_le (by rw [bytesOf_length];omega)]
   have h1:decide (1 ≤ s.size) = true:=decide_eq_true (by omega)
   rw [h1]
   have h2:decide ((s.size:Int) ≤ 64) = decide (s.size ≤ 64):=by
    by_cases h:s.size ≤ 64
    ·rw [decide_eq_true h,decide_eq_true (by omega)]
    ·rw [decide_eq_false h,decide_eq_false (by omega)]
   exact Ev.step (fun k=>by rw [quernref9_IsName.l1,if_neg (by omega),if_pos (by omega),h2];rfl) (Ev.now _)
 | m + 1,i,e,hi=>by
   have hil:i < (bytesOf s).length:=by rw [bytesOf_length];omega
   have hw:wrap64 ((i:Int) + 1) = ((i + 1:Nat):Int):=by unfold wrap64;omega
   have hb:bt s (i:Int) = (bytesOf s)[i]:=by rw [← rd_bytesOf];show (bytesOf s).getD i 0 = _;rw [List.getD_eq_getElem?_getD,List.getElem?_eq_getElem hil];rfl
   have step:∀ k,quernref9_IsName.l1 (k + 1) s (i:Int) = if cls (bytesOf s)[i] = 3 then quernref9_IsName.l1 k s ((i + 1:Nat):Int) else if (i:Int) = 0 then some false else if cls (bytesOf s)[i] = 2 then quernref9_IsName.l1 k s ((i + 1:Nat):Int) else some false:=fun k=>by
    rw [quernref9_IsName.l1,if_pos (by omega),if_pos (by omega),nest_eq,hb,hw]
   rw [List.drop_eq_getElem_cons hil,List.all_cons]
   by_cases c3:cls (bytesOf s)[i] = 3
   ·have:strOk true (bytesOf s)[i] = true:=by simp [Lex.strOk,c3]
    rw [this,Bool.true_and]
    exact Ev.step (fun k=>by rw [step,if_pos c3]) (name_l1 s hs m (i + 1) (by omega) (by omega))
   ·by_cases c2:cls (bytesOf s)[i] = 2
    ·have:strOk true (bytesOf s)[i] = true:=by simp [Lex.strOk,c2]
     rw [this,Bool.true_and]
     exact Ev.step (fun k=>by rw [step,if_neg c3,if_neg (by omega),if_pos c2]) (name_l1 s hs m (i + 1) (by omega) (by omega))
    ·have:strOk true (bytesOf s)[i] = false:=by simp [Lex.strOk,c3,c2]
     rw [this,Bool.false_and,Bool.false_and]
     exact Ev.step (fun k=>by rw [step,if_neg c3,if_neg (by omega),if_neg c2]) (Ev.now _)
theorem chB_eq:∀ (l:List Int) (h:0 < l.length),chB l = (decide (cls l[0] = 3) && (l.drop 1).all (strOk true))
 | [],h=>by simp at h
 | c :: r,h=>rfl
theorem name_l1_0 (s:ByteArray) (hs:s.size ≤ 4000000000000):Ev (fun k=>quernref9_IsName.l1 k s 0) (chB (bytesOf s) && (decide (1 ≤ s.size) && decide (s.size ≤ 64))):=by
 by_cases h0:s.size = 0
 ·have:decide (1 ≤ s.size) = false:=decide_eq_false (by omega)
  rw [this,Bool.false_and,Bool.and_false]
  exact Ev.step (fun k=>by rw [quernref9_IsName.l1,if_neg (by omega),if_neg (by omega)]) (Ev.now _)
 ·have hil:0 < (bytesOf s).length:=by rw [bytesOf_length];omega
  have hw:wrap64 ((0:Int) + 1) = ((1:Nat):Int):=by unfold wrap64;omega
  have hb:bt s (0:Int) = (bytesOf s)[0]:=by rw [← rd_bytesOf];show (bytesOf s).getD 0 0 = _;rw [List.getD_eq_getElem?_getD,List.getElem?_eq_getElem hil];rfl
  have step:∀ k,quernref9_IsName.l1 (k + 1) s 0 = if cls (bytesOf s)[0] = 3 then quernref9_IsName.l1 k s ((1:Nat):Int) else if (0:Int) = 0 then some false else if cls (bytesOf s)[0] = 2 then quernref9_IsName.l1 k s ((1:Nat):Int) else some false:=fun k=>by
   rw [quernref9_IsName.l1,if_pos (by omega),if_pos (by omega),nest_eq,hb,hw]
  have hch:chB (bytesOf s) = (decide (cls (bytesOf s)[0] = 3) && ((bytesOf s).drop 1).all (strOk true)):=chB_eq (bytesOf s) hil
  rw [hch]
  by_cases c3:cls (bytesOf s)[0] = 3
  ·rw [decide_eq_true c3,Bool.true_and]
   exact Ev.step (fun k=>by rw [step,if_pos c3]) (name_l1 s hs (s.size - 1) 1 (by omega) (by omega))
  ·rw [decide_eq_false c3,Bool.false_and,Bool.false_and]
   exact Ev.step (fun k=>by rw [step,if_neg c3,if_pos rfl]) (Ev.now _)
theorem name_l0 (s:ByteArray) {R:Bool} (hR:Ev (fun k=>quernref9_IsName.l1 k s 0) R):∀ m i:Nat,i + m = 18 → Ev (fun k=>quernref9_IsName.l0 k s wordsL (i:Int)) (decide (wordFrom s (wordsL.drop i) i = 1) && R)
 | 0,i,e=>by
   obtain rfl:i = 18:=by omega
   have:wordFrom s (wordsL.drop 18) 18 = 1:=rfl
   rw [decide_eq_true this,Bool.true_and]
   exact Ev.step (fun k=>by rw [quernref9_IsName.l0,if_neg (by decide)]) hR
 | m + 1,i,e=>by
   have hil:i < wordsL.length:=by show i < 18;omega
   have hw:wrap64 ((i:Int) + 1) = ((i + 1:Nat):Int):=by unfold wrap64;omega
   have hr:rdOf ByteArray.empty wordsL (i:Int) = wordsL[i]:=by simp [rdOf,List.getD_eq_getElem?_getD,List.getElem?_eq_getElem hil]
   rw [List.drop_eq_getElem_cons hil,Lex.wordFrom]
   have hlt:(i:Int) < ((wordsL.length:Nat):Int):=by omega
   by_cases c:s.data.toList = wordsL[i].data.toList
   ·rw [if_pos c,decide_eq_false (show ¬ ((10:Int) + (i:Int) = 1) by omega),Bool.false_and]
    exact Ev.step (fun k=>by rw [quernref9_IsName.l0,if_pos hlt,if_pos (by omega),hr,ByteArray.toList_eq,ByteArray.toList_eq,if_pos c]) (Ev.now _)
   ·rw [if_neg c]
    exact Ev.step (fun k=>by rw [quernref9_IsName.l0,if_pos hlt,if_pos (by omega),hr,ByteArray.toList_eq,ByteArray.toList_eq,if_neg c,hw]) (name_l0 s hR m (i + 1) (by omega))
theorem isName_any9 (s:ByteArray) (w:World) (hs:s.size ≤ 4000000000000):Calls Try.prog 50 #[.string s] w fun e w'=>e = .returned (.bool (nameB s)) ∧ Hid (Below w.heap.size w w'):=by
 obtain ⟨K,hK⟩:=name_l0 s (name_l1_0 s hs) 18 0 rfl
 have h1:quernref9_IsName.f K s = some (nameB s):=by
  rw [← doc_name]
  exact hK K (Nat.le_refl _)
 refine (quernref9_IsName.calls K s _ w h1).mono ?_
 rintro e w' ⟨h,h2⟩
 exact ⟨h,Lib.hid h2⟩
end Go.Proofs.Ytgbeliajhccndaa
end
