/- Lemmas of this claim (LxG,LxH,LxI,LxJ,LxK,LxL). -/
import Derived.Test.YtgbeliajhccndaaKG
section
set_option linter.unusedVariables false
set_option linter.unusedSimpArgs false
namespace Go.Proofs.Ytgbeliajhccndaa.Lex
open Go.RowKit Go.Proofs.YtgbeliajhccndaaW.PrintWords Go.Proofs.YtgbeliajhccndaaW.PrintLast Go.Proofs.YtgbeliajhccndaaW.PrintMore
set_option maxHeartbeats 2000000 in
theorem name_no (B:Nat) (A:Option Addr) (n c p m:Nat) (l:List Int) (w:World) (hs:RS w B A n c p) (hp:p ≤ n) (hnc:n ≤ c) (hr:ReadsInt w .u8 A n l) (hf:Far A B n) (hb:byteRange l) (hm:strL true (l.drop p) = m) (h64:64 < m) :
 Calls Try.prog 90 #[.pointer (some ⟨B,0,none⟩)] w fun e w'=>e = .returned (.tuple #[.agg Tok.nil.cells,.int .i64 21]) ∧ RS w' B A n c p ∧ w.grownBy w' (some B):=by
 have hn:=hr.2.1
 have hstr:m ≤ n - p:=by
  have h:=strL_le true (l.drop p)
  rw [List.length_drop,hr.1,hm] at h
  exact h
 have HM:=Lib.hid hm
 have HR:=Lib.hid hr
 have HS:=Lib.hid hs
 have HB:=Lib.hid hb
 have HF:=Lib.hid hf
 have hlen:=Lib.hid hr.1
 have hlt:=hs.lt
 have hne1:B ≠ w.heap.size:=by omega
 clear hr hs hb hf hm
 go_enter Try.func90,Try.ntmps90
 go_wp2_with (go_at_call 93;refine (stretch_any B true A n c p l _ (by exact (HS.out.alloc _).c0) (by exact (HS.out.alloc _).c1) hp hnc (by exact reads_alloc HR.out _) (by exact HB.out)).mono ?_;rintro e w' ⟨rfl,nq,rfl⟩;rw [HM.out])
 refine bodyPost_ret (v:=.tuple #[.agg Tok.nil.cells,.int .i64 21]) (by exact tok_results Try.results90 rfl rfl (four_row (heap_alloc_new w _)) rfl) rfl ⟨rfl,?_,?_⟩
 ·exact ((((((HS.out.alloc _).drewN nq).far hne1 _ _).far hne1 _ _).far hne1 _ _).far hne1 _ _)
 ·exact grown_new (grown_new (grown_new (grown_new (grown_draw (grown_alloc (grown_refl w (some B)) _) nq) (Nat.le_refl _) _ _) (Nat.le_refl _) _ _) (Nat.le_refl _) _ _) (Nat.le_refl _) _ _
def numFrom (v:Int):List Int → Option Int
 | []=>some v
 | c :: r=>if (9223372036854775807 - (c - 48)) / 10 < v then none else numFrom (10 * v + (c - 48)) r
def NumIs (ds:List Int) (x:Int) (k:Nat) (r:Option Int):Prop:=numFrom x (ds.drop k) = r
theorem num_bad {ds:List Int} {x cv:Int} {k:Nat} {r:Option Int} (h:NumIs ds x k r) (hk:k < ds.length) (hc:rd ds k = cv) (hb:(9223372036854775807 - (cv - 48)) / 10 < x):r = none:=by
 unfold NumIs at h
 rw [drop_rd ds k hk,hc,numFrom,if_pos hb] at h
 exact h.symm
theorem num_go {ds:List Int} {x cv:Int} {k:Nat} {r:Option Int} (h:NumIs ds x k r) (hk:k < ds.length) (hc:rd ds k = cv) (hb:¬ (9223372036854775807 - (cv - 48)) / 10 < x):NumIs ds (10 * x + (cv - 48)) (k + 1) r:=by
 unfold NumIs at h ⊢
 rw [drop_rd ds k hk,hc,numFrom,if_neg hb] at h
 exact h
theorem num_end {ds:List Int} {x:Int} {k:Nat} {r:Option Int} (h:NumIs ds x k r) (hk:ds.length ≤ k):r = some x:=by
 unfold NumIs at h
 rw [List.drop_eq_nil_of_le hk] at h
 exact h.symm
theorem rd_take (l:List Int) (m k:Nat) (h:k < m):rd (l.take m) k = rd l k:=by
 unfold rd
 rw [Int.toNat_natCast]
 simp [List.getD_eq_getElem?_getD,List.getElem?_take,h]
theorem tw_all {l:List Int} (b:Bool):∀ k,k < strL b l → strOk b (rd l k) = true:=by
 intro k hk
 unfold strL at hk
 have h1:k < l.length:=Nat.lt_of_lt_of_le hk (length_tw _ _)
 have h2:rd l k = l[k]:=by simp [rd,List.getD_eq_getElem?_getD,List.getElem?_eq_getElem h1]
 have h3:(l.takeWhile (strOk b))[k] = l[k]:=(List.takeWhile_prefix (strOk b)).getElem hk
 rw [h2,← h3]
 exact List.all_eq_true.1 List.all_takeWhile _ (List.getElem_mem hk)
theorem digit_of {c:Int} (h:strOk false c = true):48 ≤ c ∧ c ≤ 57:=by
 simp [strOk] at h
 unfold cls at h
 split at h
 ·omega
 ·split at h
  ·assumption
  ·split at h
   ·omega
   ·split at h <;> omega
def NumPost (w':World) (B:Nat) (A:Option Addr) (n c p m:Nat):Option Int → Ending → Prop
 | none,e=>e = .returned (.tuple #[.agg Tok.nil.cells,.int .i64 22]) ∧ RS w' B A n c p
 | some v,e=>e = .returned (.tuple #[.agg (Tok.mk 2 p v ⟨#[]⟩).cells,.int .i64 0]) ∧ RS w' B A n c (p + m)
theorem row_alloc {w:World} {g:Nat} {o:Obj} (h:w.heap[g]? = some o) (o2:Obj):(w.alloc o2).heap[g]? = some o:=((World.grownBy_alloc w o2 none).block g (Array.getElem?_eq_some_iff.1 h).1 (by simp)).trans h
theorem cell_zero {w:World} {A:Option Addr} {n:Nat} {ds:List Int} (h:ReadsInt w .u8 A n ds) (h0:0 < n):∃ ad,A = some ad ∧ w.cell? ad = some (.int .u8 (rd ds 0)):=by
 obtain ⟨ad,e,hc⟩:=h.2.2 h0
 refine ⟨ad,e,?_⟩
 have:=hc 0 h0
 rwa [show ad.add 0 = ad by unfold Addr.add;simp] at this
set_option maxHeartbeats 2000000 in
theorem number_any (B:Nat) (A:Option Addr) (n c p m:Nat) (l:List Int) (w:World) (r:Option Int) (hs:RS w B A n c p) (hp:p ≤ n) (hnc:n ≤ c) (hr:ReadsInt w .u8 A n l) (hf:Far A B n) (hb:byteRange l) (hm:strL false (l.drop p) = m) (hm0:0 < m) (hz:1 < m → rd l p ≠ 48) (hN:NumIs ((l.drop p).take m) 0 0 r) :
 Calls Try.prog 91 #[.pointer (some ⟨B,0,none⟩)] w fun e w'=>NumPost w' B A n c p m r e ∧ w.grownBy w' (some B):=by
 have hn:=hr.2.1
 have hstr:m ≤ n - p:=by
  have h:=strL_le false (l.drop p)
  rw [List.length_drop,hr.1,hm] at h
  exact h
 have hdig:∀ k,k < m → 48 ≤ rd ((l.drop p).take m) k ∧ rd ((l.drop p).take m) k ≤ 57:=by
  intro k hk
  rw [rd_take _ _ _ hk]
  exact digit_of (tw_all false k (by omega))
 have hfst:rd ((l.drop p).take m) 0 = rd l p:=by
  have:=rd_take (l.drop p) m 0 hm0
  rw [show ((0:Nat):Int) = 0 from rfl] at this
  rw [this,rd_drop0]
 have HFST:=Lib.hid hfst
 generalize hds:(l.drop p).take m = ds at *
 have HDS:=Lib.hid hds
 have HDIG:=Lib.hid hdig
 have HM:=Lib.hid hm
 have HR:=Lib.hid hr
 have HS:=Lib.hid hs
 have HB:=Lib.hid hb
 have HF:=Lib.hid hf
 have HNN:=Lib.hid hN
 have hlen:=Lib.hid hr.1
 have hltB:=hs.lt
 have hne1:B ≠ w.heap.size:=by omega
 have hne2:B ≠ w.heap.size + 1:=by omega
 have c1:=hs.c1
 have f1:=hs.f1
 generalize hfv:rd l p = fv at *
 have hz':1 < m → (fv == 48) = false:=fun h=>by simpa using hz h
 have HFV:=Lib.hid hfv
 clear hr hs hb hf hm hN hz hfst hds hdig hfv
 have hgd:(m ≤ 1) ∨ (1 < m ∧ (fv == 48) = false):=by
  rcases Nat.lt_or_ge 1 m with h | h
  ·exact .inr ⟨h,hz' h⟩
  ·exact .inl h
 clear hz'
 go_enter Try.func91,Try.ntmps91
 go_wp2_with (go_at_call 93;refine (stretch_any B false A n c p l _ (by exact (HS.out.alloc _).c0) (by exact (HS.out.alloc _).c1) hp hnc (by exact reads_alloc HR.out _) (by exact HB.out)).mono ?_;rintro e w' ⟨rfl,nq,rfl⟩;rw [HM.out])
 obtain ⟨Z,hz⟩:∃ Z,Z = (Obj.cells #[Value.int IntKind.i64 0,Value.int IntKind.i64 0,Value.int IntKind.i64 0,Value.string ⟨#[]⟩] 92):=⟨_,rfl⟩
 rw [← hz]
 have HZ:=Lib.hid hz
 clear hz
 refine (rest_any B A n c p _ (by exact (HS.out.alloc _).c0) (by exact (HS.out.alloc _).c1) hp).mono ?_
 rintro e w' ⟨A2,rfl,HRD2,nq2,rfl⟩
 obtain ⟨hsl,_,_,_⟩:=cut_string HRD2 hnc (reads_alloc HR.out Z) hstr
 have HX0:=(HRD2 _ .u8 l hnc (reads_alloc HR.out Z)).take_ m hstr
 rw [HDS.out] at HX0
 obtain ⟨ad,hA,hcell⟩:=cell_zero HX0 hm0
 rw [HFST.out] at hcell
 have HX:=Lib.hid HX0
 clear HX0 HRD2
 obtain rfl:=hA
 rcases hgd with h1 | ⟨h1,hz2⟩
 all_goals
  go_wp2
  go_loop [6,28] (fun v i=>∃ (k:Nat) (x:Int),k ≤ m ∧ i = .int .i64 k ∧ v = .int .i64 x ∧ 0 ≤ x ∧ x ≤ 9223372036854775807 ∧ Hid (NumIs ds x k r)) (fun _ i=>m - (intOf i).toNat)
  case atStart=>exact ⟨0,0,Nat.zero_le _,rfl,rfl,by omega,by omega,HNN⟩
  case round=>
   obtain ⟨k,x,hk,rfl,rfl,hx0,hx1,HK⟩:=hrel
   have hz:=HZ.out
   subst hz
   by_cases hlt:k < m
   ·obtain ⟨ad',hA,hcell⟩:=HX.out.at_ (k:Int) (by omega) (by omega)
    obtain rfl:=Option.some.inj hA
    rw [Int.toNat_natCast] at hcell
    have hd:=HDIG.out k hlt
    generalize hcv:rd ds k = cv at *
    have HCV:=Lib.hid hcv
    clear hcv
    by_cases hbig:(9223372036854775807 - (cv - 48)) / 10 < x
    ·have hr:=num_bad HK.out (by rw [HX.out.1];exact hlt) HCV.out hbig
     go_wp2
     refine bodyPost_ret (v:=.tuple #[.agg Tok.nil.cells,.int .i64 22]) (by exact tok_results Try.results91 rfl rfl (four_row (heap_alloc_new w _)) rfl) rfl ⟨?_,?_⟩
     ·exact ⟨rfl,((((((HS.out.alloc _).drewN _).far hne1 _ _).far hne1 _ _).far hne1 _ _).far hne1 _ _)⟩
     ·exact grown_new (grown_new (grown_new (grown_new (grown_draw (grown_alloc (grown_refl w (some B)) _) _) (Nat.le_refl _) _ _) (Nat.le_refl _) _ _) (Nat.le_refl _) _ _) (Nat.le_refl _) _ _
    ·have hb2:10 * x + (cv - 48) ≤ 9223372036854775807:=by omega
     have HN3:=Lib.hid (num_go HK.out (by rw [HX.out.1];exact hlt) HCV.out hbig)
     go_wp2
     go_round
     case rel=>exact ⟨k + 1,10 * x + (cv - 48),by omega,by go_num,rfl,by omega,by omega,HN3⟩
     case measure=>simp [intOf];omega
   ·have HRR:=Lib.hid (num_end HK.out (by rw [HX.out.1];omega))
    have hw:w.heap.size ≤ w.heap.size + 1:=Nat.le_succ _
    go_wp2
    refine bodyPost_ret (v:=.tuple #[.agg (Tok.mk 2 p x ⟨#[]⟩).cells,.int .i64 0]) (by exact tok_results Try.results91 rfl rfl (row_alloc (four_row (far_row (heap_alloc_new w _) (Ne.symm hne1))) _) rfl) rfl ⟨?_,?_⟩
    ·rw [HRR.out]
     exact ⟨rfl,(((((((HS.out.alloc _).drewN _).set (p + m)).far hne1 _ _).far hne1 _ _).far hne1 _ _).far hne1 _ _).alloc _⟩
    ·exact grown_alloc (grown_new (grown_new (grown_new (grown_new (grown_row (grown_draw (grown_alloc (grown_refl w (some B)) _) _) _ _) (Nat.le_refl _) _ _) (Nat.le_refl _) _ _) (Nat.le_refl _) _ _) (Nat.le_refl _) _ _) _
end Go.Proofs.Ytgbeliajhccndaa.Lex
end
section
set_option linter.unusedVariables false
set_option linter.unusedSimpArgs false
namespace Go.Proofs.Ytgbeliajhccndaa.Lex
open Go.RowKit Go.Proofs.YtgbeliajhccndaaW.PrintWords Go.Proofs.YtgbeliajhccndaaW.PrintLast Go.Proofs.YtgbeliajhccndaaW.PrintMore
set_option maxHeartbeats 2000000 in
theorem number_zero (B:Nat) (A:Option Addr) (n c p m:Nat) (l:List Int) (w:World) (hs:RS w B A n c p) (hp:p ≤ n) (hnc:n ≤ c) (hr:ReadsInt w .u8 A n l) (hb:byteRange l) (hm:strL false (l.drop p) = m) (hm0:1 < m) (hz:rd l p = 48) :
 Calls Try.prog 91 #[.pointer (some ⟨B,0,none⟩)] w fun e w'=>NumPost w' B A n c p m none e ∧ w.grownBy w' (some B):=by
 have hn:=hr.2.1
 have hstr:m ≤ n - p:=by
  have h:=strL_le false (l.drop p)
  rw [List.length_drop,hr.1,hm] at h
  exact h
 have hfst:rd ((l.drop p).take m) 0 = rd l p:=by
  have:=rd_take (l.drop p) m 0 (by omega)
  rw [show ((0:Nat):Int) = 0 from rfl] at this
  rw [this,rd_drop0]
 rw [hz] at hfst
 have HFST:=Lib.hid hfst
 generalize hds:(l.drop p).take m = ds at *
 have HDS:=Lib.hid hds
 have HM:=Lib.hid hm
 have HR:=Lib.hid hr
 have HS:=Lib.hid hs
 have HB:=Lib.hid hb
 have hltB:=hs.lt
 have hne1:B ≠ w.heap.size:=by omega
 clear hr hs hb hm hz hfst hds
 go_enter Try.func91,Try.ntmps91
 go_wp2_with (go_at_call 93;refine (stretch_any B false A n c p l _ (by exact (HS.out.alloc _).c0) (by exact (HS.out.alloc _).c1) hp hnc (by exact reads_alloc HR.out _) (by exact HB.out)).mono ?_;rintro e w' ⟨rfl,nq,rfl⟩;rw [HM.out])
 obtain ⟨Z,hz⟩:∃ Z,Z = (Obj.cells #[Value.int IntKind.i64 0,Value.int IntKind.i64 0,Value.int IntKind.i64 0,Value.string ⟨#[]⟩] 92):=⟨_,rfl⟩
 rw [← hz]
 refine (rest_any B A n c p _ (by exact (HS.out.alloc _).c0) (by exact (HS.out.alloc _).c1) hp).mono ?_
 rintro e w' ⟨A2,rfl,HRD2,nq2,rfl⟩
 obtain ⟨hsl,_,_,_⟩:=cut_string HRD2 hnc (reads_alloc HR.out Z) hstr
 have HX0:=(HRD2 _ .u8 l hnc (reads_alloc HR.out Z)).take_ m hstr
 rw [HDS.out] at HX0
 obtain ⟨ad,hA,hcell⟩:=cell_zero HX0 (by omega)
 rw [HFST.out] at hcell
 have HX:=Lib.hid HX0
 clear HX0 HRD2
 obtain rfl:=hA
 subst hz
 go_wp2
 refine bodyPost_ret (v:=.tuple #[.agg Tok.nil.cells,.int .i64 22]) (by exact tok_results Try.results91 rfl rfl (four_row (heap_alloc_new w _)) rfl) rfl ⟨?_,?_⟩
 ·exact ⟨rfl,((((((HS.out.alloc _).drewN _).far hne1 _ _).far hne1 _ _).far hne1 _ _).far hne1 _ _)⟩
 ·exact grown_new (grown_new (grown_new (grown_new (grown_draw (grown_alloc (grown_refl w (some B)) _) _) (Nat.le_refl _) _ _) (Nat.le_refl _) _ _) (Nat.le_refl _) _ _) (Nat.le_refl _) _ _
theorem rest_cutN (B:Nat) (A:Option Addr) (n c p m:Nat) (l:List Int) (w0:World) (a:Nat) (hs:RS w0 B A n c p) (hr:ReadsInt w0 .u8 A n l) (hp:p ≤ n) (hnc:n ≤ c) (hm:m ≤ n - p) :
 Calls Try.prog 89 #[.pointer (some ⟨B,0,none⟩)] (w0.drewN a) fun e w'=>∃ (A2:Option Addr) (nq:Nat),e = .returned (.slice A2 (n - p) (c - p)) ∧ w' = w0.drewN nq ∧
  (∀ W:World,(Instr.slice 52 (.slice A2 (n - p) (c - p)) none (some (.int .i64 (m:Int))) none).run Try.prog W = .ok (.slice A2 m (c - p)) W) ∧
  (∀ k,(convert 52 9 (.slice A2 m (c - p))).run Try.prog (w0.drewN k) = .ok (.string (strOfNums ((l.drop p).take m))) (w0.drewN k)) ∧
  (∀ o k,(convert 52 9 (.slice A2 m (c - p))).run Try.prog ((w0.drewN k).alloc o) = .ok (.string (strOfNums ((l.drop p).take m))) ((w0.drewN k).alloc o)) ∧
  (∀ o k j,(convert 52 9 (.slice A2 m (c - p))).run Try.prog (((w0.drewN k).alloc o).drewN j) = .ok (.string (strOfNums ((l.drop p).take m))) (((w0.drewN k).alloc o).drewN j)) ∧
  Hid (ReadsInt w0 .u8 A2 (n - p) (l.drop p)):=by
 refine (rest_any B A n c p _ (hs.drewN a).c0 (hs.drewN a).c1 hp).mono ?_
 rintro e w' ⟨A2,rfl,h,nq,rfl⟩
 obtain ⟨h1,h2,h3,h4⟩:=cut_string h hnc hr hm
 exact ⟨A2,a + nq,rfl,World.drewN_drewN _ _ _,h1,h2,h3,h4,Lib.hid (h w0 .u8 l hnc hr)⟩
theorem rest_cut (B:Nat) (A:Option Addr) (n c p m:Nat) (l:List Int) (w0:World) (hs:RS w0 B A n c p) (hr:ReadsInt w0 .u8 A n l) (hp:p ≤ n) (hnc:n ≤ c) (hm:m ≤ n - p) :
 Calls Try.prog 89 #[.pointer (some ⟨B,0,none⟩)] w0 fun e w'=>∃ (A2:Option Addr) (nq:Nat),e = .returned (.slice A2 (n - p) (c - p)) ∧ w' = w0.drewN nq ∧
  (∀ W:World,(Instr.slice 52 (.slice A2 (n - p) (c - p)) none (some (.int .i64 (m:Int))) none).run Try.prog W = .ok (.slice A2 m (c - p)) W) ∧
  (∀ k,(convert 52 9 (.slice A2 m (c - p))).run Try.prog (w0.drewN k) = .ok (.string (strOfNums ((l.drop p).take m))) (w0.drewN k)) ∧
  (∀ o k,(convert 52 9 (.slice A2 m (c - p))).run Try.prog ((w0.drewN k).alloc o) = .ok (.string (strOfNums ((l.drop p).take m))) ((w0.drewN k).alloc o)) ∧
  (∀ o k j,(convert 52 9 (.slice A2 m (c - p))).run Try.prog (((w0.drewN k).alloc o).drewN j) = .ok (.string (strOfNums ((l.drop p).take m))) (((w0.drewN k).alloc o).drewN j)) ∧
  Hid (ReadsInt w0 .u8 A2 (n - p) (l.drop p)):=rest_cutN B A n c p m l w0 0 hs hr hp hnc hm
set_option maxHeartbeats 2000000 in
theorem sign_two (B:Nat) (A:Option Addr) (n c p:Nat) (l:List Int) (w:World) (k:Int) (hs:RS w B A n c p) (hp:p + 1 < n) (hnc:n ≤ c) (hr:ReadsInt w .u8 A n l) (hk:twoK (strOfNums ((l.drop p).take 2)) = k) (hk0:k ≠ 0) :
 Calls Try.prog 92 #[.pointer (some ⟨B,0,none⟩)] w fun e w'=>(e = .returned (.tuple #[.agg (Tok.mk k p 0 ⟨#[]⟩).cells,.int .i64 0]) ∧ RS w' B A n c (p + 2)) ∧ w.grownBy w' (some B):=by
 have hn:=hr.2.1
 have hkb:(k == 0) = false:=by simpa using hk0
 have HK:=Lib.hid hk
 have HR:=Lib.hid hr
 have HS:=Lib.hid hs
 have hltB:=hs.lt
 have hne1:B ≠ w.heap.size:=by omega
 have hne2:B ≠ w.heap.size + 1:=by omega
 have c1:=hs.c1
 have f1:=hs.f1
 have hp':p ≤ n:=by omega
 have h2:2 ≤ n - p:=by omega
 clear hr hs hk hk0
 go_enter Try.func92,Try.ntmps92
 go_wp2_with (first | (go_at_call 89;(with_reducible refine (rest_cutN B A n c p 2 l _ _ (by exact (HS.out.alloc _).alloc _) (by exact reads_alloc (reads_alloc HR.out _) _) hp' hnc h2).mono ?_);rintro e w' ⟨A2,nq2,rfl,rfl,hsl,hcv,hcw,hcu,HX⟩) | (go_at_call 89;refine (rest_cut B A n c p 2 l _ (by exact (HS.out.alloc _).alloc _) (by exact reads_alloc (reads_alloc HR.out _) _) hp' hnc h2).mono ?_;rintro e w' ⟨A2,nq2,rfl,rfl,hsl,hcv,hcw,hcu,HX⟩) | (go_at_call 95;refine (two_any _ _).mono ?_;rw [HK.out];rintro e w' ⟨rfl,rfl⟩))
 have hw:w.heap.size ≤ w.heap.size + 1:=Nat.le_succ _
 have hne3:w.heap.size ≠ w.heap.size + 1:=by omega
 refine bodyPost_ret (v:=.tuple #[.agg (Tok.mk k p 0 ⟨#[]⟩).cells,.int .i64 0]) (by exact tok_results Try.results92 rfl rfl (four_row (far_row (far_row (heap_alloc2_old w _ _) hne3) (Ne.symm hne1))) rfl) rfl ⟨⟨rfl,?_⟩,?_⟩
 ·exact ((((((((HS.out.alloc _).alloc _).drewN _).far hne2 _ _).set (p + 2)).far hne1 _ _).far hne1 _ _).far hne1 _ _).far hne1 _ _
 ·exact grown_new (grown_new (grown_new (grown_new (grown_row (grown_new (grown_draw (grown_alloc (grown_alloc (grown_refl w (some B)) _) _) _) hw _ _) _ _) (Nat.le_refl _) _ _) (Nat.le_refl _) _ _) (Nat.le_refl _) _ _) (Nat.le_refl _) _ _
end Go.Proofs.Ytgbeliajhccndaa.Lex
end
section
set_option linter.unusedVariables false
set_option linter.unusedSimpArgs false
namespace Go.Proofs.Ytgbeliajhccndaa.Lex
open Go.RowKit Go.Proofs.YtgbeliajhccndaaW.PrintWords Go.Proofs.YtgbeliajhccndaaW.PrintLast Go.Proofs.YtgbeliajhccndaaW.PrintMore
theorem below_row {w w1:World} {g:Nat} {o:Obj} (h:w.heap[g]? = some o) (hb:Below w.heap.size w w1):w1.heap[g]? = some o:=(hb.block g (Array.getElem?_eq_some_iff.1 h).1).trans h
theorem row_cell {w:World} {g:Nat} {x0 x1 x2 x3:Value} {t:TypeId} (h:w.heap[g]? = some (.cells #[x0,x1,x2,x3] t (0,0))) :
 w.cell? ⟨g,0,none⟩ = some x0 ∧ w.cell? ⟨g,1,none⟩ = some x1 ∧ w.cell? ⟨g,2,none⟩ = some x2 ∧ w.cell? ⟨g,3,none⟩ = some x3 ∧ ∀ j,w.frozen? ⟨g,j,none⟩ = false:=by
 refine ⟨?_,?_,?_,?_,fun j=>?_⟩ <;> simp [World.cell?,World.frozen?,h]
theorem grown_any {w w1:World} (h:w.grownBy w1 none) (row:Option Nat):w.grownBy w1 row:=⟨h.os,h.tape,h.output,h.size,fun k hk _=>h.block k hk (by simp)⟩
def SignPost (w':World) (B:Nat) (A:Option Addr) (n c p:Nat) (k:Int) (e:Ending):Prop:=
 if k = 0 then e = .returned (.tuple #[.agg Tok.nil.cells,.int .i64 20]) ∧ RS w' B A n c p
 else e = .returned (.tuple #[.agg (Tok.mk k p 0 ⟨#[]⟩).cells,.int .i64 0]) ∧ RS w' B A n c (p + 1)
set_option maxHeartbeats 2000000 in
theorem sign_one (B:Nat) (A:Option Addr) (n c p:Nat) (l:List Int) (w:World) (k cv:Int) (hs:RS w B A n c p) (hp:p < n) (hnc:n ≤ c) (hr:ReadsInt w .u8 A n l) (hcv:rd l p = cv) (hk2:p + 1 < n → twoK (strOfNums ((l.drop p).take 2)) = 0) (hk:oneK cv = k) :
 Calls Try.prog 92 #[.pointer (some ⟨B,0,none⟩)] w fun e w'=>SignPost w' B A n c p k e ∧ w.grownBy w' (some B):=by
 have hn:=hr.2.1
 have HK:=Lib.hid hk
 have HR:=Lib.hid hr
 have HS:=Lib.hid hs
 have hltB:=hs.lt
 have hne1:B ≠ w.heap.size:=by omega
 have hne2:B ≠ w.heap.size + 1:=by omega
 have c0:=hs.c0
 have c1:=hs.c1
 have f1:=hs.f1
 have hp':p ≤ n:=by omega
 obtain ⟨ad,hA,hcell⟩:=hr.at_ (p:Int) (by omega) (by omega)
 obtain rfl:=hA
 rw [Int.toNat_natCast,hcv] at hcell
 clear hr hs hk hcv
 have hcase:(p + 1 < n ∧ twoK (strOfNums ((l.drop p).take 2)) = 0) ∨ n ≤ p + 1:=by
  rcases Nat.lt_or_ge (p + 1) n with h | h
  ·exact .inl ⟨h,hk2 h⟩
  ·exact .inr h
 clear hk2
 rcases hcase with ⟨hp2,hk2⟩ | hp2
 ·have h2:2 ≤ n - p:=by omega
  have HK2:=Lib.hid hk2
  clear hk2
  go_enter Try.func92,Try.ntmps92
  go_wp2_with (first | (go_at_call 89;(with_reducible refine (rest_cutN B (some ad) n c p 2 l _ _ (by exact (HS.out.alloc _).alloc _) (by exact reads_alloc (reads_alloc HR.out _) _) hp' hnc h2).mono ?_);rintro e w' ⟨A2,nq2,rfl,rfl,hsl,hcv,hcw,hcu,HX⟩) | (go_at_call 89;refine (rest_cut B (some ad) n c p 2 l _ (by exact (HS.out.alloc _).alloc _) (by exact reads_alloc (reads_alloc HR.out _) _) hp' hnc h2).mono ?_;rintro e w' ⟨A2,nq2,rfl,rfl,hsl,hcv,hcw,hcu,HX⟩) | (go_at_call 95;refine (two_any _ _).mono ?_;rw [HK2.out];rintro e w' ⟨rfl,rfl⟩))
  generalize hW:(((w.alloc (.cells #[.int .i64 0,.int .i64 0,.int .i64 0,.string ⟨#[]⟩] 92)).alloc (.cells #[.int .i64 0,.int .i64 (p:Int),.int .i64 0,.string ⟨#[]⟩] 92)).drewN nq2).setCell ⟨w.heap.size + 1,0,none⟩ (.int .i64 0) = W
  have hG:w.grownBy W none:=by rw [← hW];exact grown_new (grown_draw (grown_alloc (grown_alloc (grown_refl w none) _) _) _) (Nat.le_succ _) _ _
  have hs2:RS W B (some ad) n c p:=HS.out.grown hG (by simp)
  have hR:W.heap[w.heap.size]? = some (Obj.cells #[.int .i64 0,.int .i64 0,.int .i64 0,.string ⟨#[]⟩] 92 (0,0)):=by rw [← hW];exact far_row (heap_alloc2_old w _ _) (by omega)
  have hT:W.heap[w.heap.size + 1]? = some (Obj.cells #[.int .i64 0,.int .i64 (p:Int),.int .i64 0,.string ⟨#[]⟩] 92 (0,0)):=by rw [← hW];exact heap_setCell_same _ _ _ _ _ _ (heap_alloc2_new w _ _)
  clear hW
  have hcell2:=hG.cell hcell (by simp)
  have d0:=hs2.c0
  have d1:=hs2.c1
  have HS2:=Lib.hid hs2
  have HG:=Lib.hid hG
  have HRR:=Lib.hid hR
  have HTT:=Lib.hid hT
  clear hG hs2 hR hT c0 c1 f1 hcell
  go_cut [5] (fun t w1=>t = .int .i64 1 ∧ Hid (RS w1 B (some ad) n c p) ∧ Hid (w1.heap[w.heap.size]? = some (Obj.cells #[.int .i64 0,.int .i64 0,.int .i64 0,.string ⟨#[]⟩] 92 (0,0))) ∧ Hid (w1.heap[w.heap.size + 1]? = some (Obj.cells #[.int .i64 k,.int .i64 (p:Int),.int .i64 0,.string ⟨#[]⟩] 92 (0,0))) ∧ Hid (w.grownBy w1 none))
  case first=>
   go_region_with (go_at_call 96;refine (one_any cv _).mono ?_;rw [HK.out];rintro e w' ⟨rfl,hb1⟩;have t0:=row_cell (below_row (by exact HTT.out) hb1);have HT1:=Lib.hid (below_row (by exact HTT.out) hb1))
   all_goals
    go_wp2_with fail
    go_meet
    exact ⟨rfl,Lib.hid (((RS.below (by exact HS2.out) hb1)).far hne2 _ _),Lib.hid (far_row (below_row (by exact HRR.out) hb1) (by omega)),Lib.hid (heap_setCell_same _ _ _ _ _ _ HT1.out),Lib.hid (grown_new (grown_below (by exact grown_draw HG.out 1) hb1) (Nat.le_succ _) _ _)⟩
  case rest=>
   obtain ⟨rfl,HS3,HR3,HT3,HG3⟩:=hcut
   have t0:=row_cell HT3.out
   have r0:=row_cell HR3.out
   have e1:=HS3.out.c1
   have ef:=HS3.out.f1
   have hgb:=grown_any HG3.out (some B)
   by_cases hk0:k = 0
   ·subst hk0
    have hkb:((0:Int) == 0) = true:=rfl
    go_wp2
    refine bodyPost_ret (v:=.tuple #[.agg Tok.nil.cells,.int .i64 20]) (by exact tok_results Try.results92 rfl rfl (four_row HR3.out) rfl) rfl ⟨?_,?_⟩
    ·unfold SignPost
     rw [if_pos rfl]
     exact ⟨rfl,(((HS3.out.far hne1 _ _).far hne1 _ _).far hne1 _ _).far hne1 _ _⟩
    ·exact grown_new (grown_new (grown_new (grown_new hgb (Nat.le_refl _) _ _) (Nat.le_refl _) _ _) (Nat.le_refl _) _ _) (Nat.le_refl _) _ _
   ·have hkb:(k == 0) = false:=by simpa using hk0
    have HK0:=Lib.hid hk0
    clear hk0
    go_wp2
    refine bodyPost_ret (v:=.tuple #[.agg (Tok.mk k p 0 ⟨#[]⟩).cells,.int .i64 0]) (by exact tok_results Try.results92 rfl rfl (four_row (far_row HR3.out (Ne.symm hne1))) rfl) rfl ⟨?_,?_⟩
    ·unfold SignPost
     rw [if_neg HK0.out]
     exact ⟨rfl,((((HS3.out.set (p + 1)).far hne1 _ _).far hne1 _ _).far hne1 _ _).far hne1 _ _⟩
    ·exact grown_new (grown_new (grown_new (grown_new (grown_row hgb _ _) (Nat.le_refl _) _ _) (Nat.le_refl _) _ _) (Nat.le_refl _) _ _) (Nat.le_refl _) _ _
 ·have h2:0 ≤ n - p:=by omega
  go_enter Try.func92,Try.ntmps92
  go_wp2_with (first | (go_at_call 89;refine (rest_cut B (some ad) n c p 0 l _ (by exact (HS.out.alloc _).alloc _) (by exact reads_alloc (reads_alloc HR.out _) _) hp' hnc h2).mono ?_;rintro e w' ⟨A2,nq2,rfl,rfl,hsl,hcv,hcw,hcu,HX⟩))
  generalize hW:((w.alloc (.cells #[.int .i64 0,.int .i64 0,.int .i64 0,.string ⟨#[]⟩] 92)).alloc (.cells #[.int .i64 0,.int .i64 (p:Int),.int .i64 0,.string ⟨#[]⟩] 92)).drewN nq2 = W
  have hG:w.grownBy W none:=by rw [← hW];exact grown_draw (grown_alloc (grown_alloc (grown_refl w none) _) _) _
  have hs2:RS W B (some ad) n c p:=HS.out.grown hG (by simp)
  have hR:W.heap[w.heap.size]? = some (Obj.cells #[.int .i64 0,.int .i64 0,.int .i64 0,.string ⟨#[]⟩] 92 (0,0)):=by rw [← hW];exact heap_alloc2_old w _ _
  have hT:W.heap[w.heap.size + 1]? = some (Obj.cells #[.int .i64 0,.int .i64 (p:Int),.int .i64 0,.string ⟨#[]⟩] 92 (0,0)):=by rw [← hW];exact heap_alloc2_new w _ _
  clear hW
  have hcell2:=hG.cell hcell (by simp)
  have d0:=hs2.c0
  have d1:=hs2.c1
  have HS2:=Lib.hid hs2
  have HG:=Lib.hid hG
  have HRR:=Lib.hid hR
  have HTT:=Lib.hid hT
  clear hG hs2 hR hT c0 c1 f1 hcell
  go_cut [5] (fun t w1=>t = .int .i64 1 ∧ Hid (RS w1 B (some ad) n c p) ∧ Hid (w1.heap[w.heap.size]? = some (Obj.cells #[.int .i64 0,.int .i64 0,.int .i64 0,.string ⟨#[]⟩] 92 (0,0))) ∧ Hid (w1.heap[w.heap.size + 1]? = some (Obj.cells #[.int .i64 k,.int .i64 (p:Int),.int .i64 0,.string ⟨#[]⟩] 92 (0,0))) ∧ Hid (w.grownBy w1 none))
  case first=>
   go_region_with (go_at_call 96;refine (one_any cv _).mono ?_;rw [HK.out];rintro e w' ⟨rfl,hb1⟩;have t0:=row_cell (below_row (by exact HTT.out) hb1);have HT1:=Lib.hid (below_row (by exact HTT.out) hb1))
   all_goals
    go_wp2_with fail
    go_meet
    exact ⟨rfl,Lib.hid (((RS.below (by exact HS2.out) hb1)).far hne2 _ _),Lib.hid (far_row (below_row (by exact HRR.out) hb1) (by omega)),Lib.hid (heap_setCell_same _ _ _ _ _ _ HT1.out),Lib.hid (grown_new (grown_below (by exact grown_draw HG.out 1) hb1) (Nat.le_succ _) _ _)⟩
  case rest=>
   obtain ⟨rfl,HS3,HR3,HT3,HG3⟩:=hcut
   have t0:=row_cell HT3.out
   have r0:=row_cell HR3.out
   have e1:=HS3.out.c1
   have ef:=HS3.out.f1
   have hgb:=grown_any HG3.out (some B)
   by_cases hk0:k = 0
   ·subst hk0
    have hkb:((0:Int) == 0) = true:=rfl
    go_wp2
    refine bodyPost_ret (v:=.tuple #[.agg Tok.nil.cells,.int .i64 20]) (by exact tok_results Try.results92 rfl rfl (four_row HR3.out) rfl) rfl ⟨?_,?_⟩
    ·unfold SignPost
     rw [if_pos rfl]
     exact ⟨rfl,(((HS3.out.far hne1 _ _).far hne1 _ _).far hne1 _ _).far hne1 _ _⟩
    ·exact grown_new (grown_new (grown_new (grown_new hgb (Nat.le_refl _) _ _) (Nat.le_refl _) _ _) (Nat.le_refl _) _ _) (Nat.le_refl _) _ _
   ·have hkb:(k == 0) = false:=by simpa using hk0
    have HK0:=Lib.hid hk0
    clear hk0
    go_wp2
    refine bodyPost_ret (v:=.tuple #[.agg (Tok.mk k p 0 ⟨#[]⟩).cells,.int .i64 0]) (by exact tok_results Try.results92 rfl rfl (four_row (far_row HR3.out (Ne.symm hne1))) rfl) rfl ⟨?_,?_⟩
    ·unfold SignPost
     rw [if_neg HK0.out]
     exact ⟨rfl,((((HS3.out.set (p + 1)).far hne1 _ _).far hne1 _ _).far hne1 _ _).far hne1 _ _⟩
    ·exact grown_new (grown_new (grown_new (grown_new (grown_row hgb _ _) (Nat.le_refl _) _ _) (Nat.le_refl _) _ _) (Nat.le_refl _) _ _) (Nat.le_refl _) _ _
end Go.Proofs.Ytgbeliajhccndaa.Lex
end
section
set_option linter.unusedVariables false
set_option linter.unusedSimpArgs false
namespace Go.Proofs.Ytgbeliajhccndaa.Lex
open Go.RowKit Go.Proofs.YtgbeliajhccndaaW.PrintWords Go.Proofs.YtgbeliajhccndaaW.PrintLast Go.Proofs.YtgbeliajhccndaaW.PrintMore
def nameAt (l:List Int) (p:Nat):Tok × Int × Nat:=
 if 64 < strL true (l.drop p) then (Tok.nil,21,p) else (nameTok p (strOfNums ((l.drop p).take (strL true (l.drop p)))),0,p + strL true (l.drop p))
def numAns (p m:Nat):Option Int → Tok × Int × Nat
 | none=>(Tok.nil,22,p)
 | some v=>(⟨2,p,v,⟨#[]⟩⟩,0,p + m)
def numberAt (l:List Int) (p:Nat):Tok × Int × Nat:=
 if 1 < strL false (l.drop p) ∧ rd l p = 48 then (Tok.nil,22,p) else numAns p (strL false (l.drop p)) (numFrom 0 ((l.drop p).take (strL false (l.drop p))))
def signAt (l:List Int) (p:Nat):Tok × Int × Nat:=
 if p + 1 < l.length ∧ twoK (strOfNums ((l.drop p).take 2)) ≠ 0 then (⟨twoK (strOfNums ((l.drop p).take 2)),p,0,⟨#[]⟩⟩,0,p + 2)
 else if oneK (rd l p) = 0 then (Tok.nil,20,p) else (⟨oneK (rd l p),p,0,⟨#[]⟩⟩,0,p + 1)
def tokAt (l:List Int) (p:Nat):Tok × Int × Nat:=
 if cls (rd l p) = 3 then nameAt l p else if cls (rd l p) = 2 then numberAt l p else if cls (rd l p) = 4 then signAt l p else (Tok.nil,20,p)
theorem tri {α β γ:Type} {a x:α} {b y:β} {c z:γ} (h:(a,b,c) = (x,y,z)):a = x ∧ b = y ∧ c = z:=by cases h;exact ⟨rfl,rfl,rfl⟩
def TokPost (w w':World) (B:Nat) (A:Option Addr) (n c:Nat) (x:Tok) (err:Int) (q:Nat) (e:Ending):Prop:=
 e = .returned (.tuple #[.agg #[.int .i64 x.kind,.int .i64 x.at_,.int .i64 x.value,.string x.name],.int .i64 err]) ∧ RS w' B A n c q ∧ w.grownBy w' (some B)
section
variable (B:Nat) (A:Option Addr) (n c p:Nat) (l:List Int) (w:World) (x:Tok) (err:Int) (q:Nat) (hs:RS w B A n c p) (hp:p < n) (hnc:n ≤ c) (hr:ReadsInt w .u8 A n l) (hf:Far A B n) (hb:byteRange l)
include hs hp hnc hr hf hb
theorem name_tok (h:nameAt l p = (x,err,q)):Calls Try.prog 90 #[.pointer (some ⟨B,0,none⟩)] w fun e w'=>TokPost w w' B A n c x err q e:=by
 unfold nameAt at h
 by_cases h64:64 < strL true (l.drop p)
 ·rw [if_pos h64] at h
  obtain ⟨rfl,rfl,rfl⟩:=tri h
  exact (name_no B A n c p _ l w hs (by omega) hnc hr hf hb rfl h64)
 ·rw [if_neg h64] at h
  obtain ⟨rfl,rfl,rfl⟩:=tri h
  exact (name_yes B A n c p _ l w hs (by omega) hnc hr hf hb rfl (by omega))
theorem number_tok (hc:cls (rd l p) = 2) (h:numberAt l p = (x,err,q)):Calls Try.prog 91 #[.pointer (some ⟨B,0,none⟩)] w fun e w'=>TokPost w w' B A n c x err q e:=by
 unfold numberAt at h
 have hm0:0 < strL false (l.drop p):=by
  rw [strL_step false l p (by rw [hr.1];exact hp)]
  simp [strOk,hc]
 by_cases h1:1 < strL false (l.drop p) ∧ rd l p = 48
 ·rw [if_pos h1] at h
  obtain ⟨rfl,rfl,rfl⟩:=tri h
  exact (number_zero B A n c p _ l w hs (by omega) hnc hr hb rfl h1.1 h1.2).mono fun e w' ⟨⟨h1,h2⟩,h3⟩=>⟨h1,h2,h3⟩
 ·rw [if_neg h1] at h
  have hc:=number_any B A n c p _ l w (numFrom 0 ((l.drop p).take (strL false (l.drop p)))) hs (by omega) hnc hr hf hb rfl hm0 (fun h2 h3=>h1 ⟨h2,h3⟩) (by unfold NumIs;rw [List.drop_zero])
  cases hN:numFrom 0 ((l.drop p).take (strL false (l.drop p))) with
  | none=>
    rw [hN] at h hc
    obtain ⟨rfl,rfl,rfl⟩:=tri h
    exact hc.mono fun e w' ⟨⟨h1,h2⟩,h3⟩=>⟨h1,h2,h3⟩
  | some v=>
    rw [hN] at h hc
    obtain ⟨rfl,rfl,rfl⟩:=tri h
    exact hc.mono fun e w' ⟨⟨h1,h2⟩,h3⟩=>⟨h1,h2,h3⟩
omit hf hb in
theorem sign_tok (h:signAt l p = (x,err,q)):Calls Try.prog 92 #[.pointer (some ⟨B,0,none⟩)] w fun e w'=>TokPost w w' B A n c x err q e:=by
 unfold signAt at h
 rw [hr.1] at h
 by_cases h1:p + 1 < n ∧ twoK (strOfNums ((l.drop p).take 2)) ≠ 0
 ·rw [if_pos h1] at h
  obtain ⟨rfl,rfl,rfl⟩:=tri h
  exact (sign_two B A n c p l w _ hs h1.1 hnc hr rfl h1.2).mono fun e w' ⟨⟨h1,h2⟩,h3⟩=>⟨h1,h2,h3⟩
 ·rw [if_neg h1] at h
  have hc:=sign_one B A n c p l w _ _ hs hp hnc hr rfl (fun h2=>by
   rcases Decidable.em (twoK (strOfNums ((l.drop p).take 2)) = 0) with h3 | h3
   ·exact h3
   ·exact absurd ⟨h2,h3⟩ h1) rfl
  unfold SignPost at hc
  by_cases hk:oneK (rd l p) = 0
  ·rw [if_pos hk] at h
   simp only [if_pos hk] at hc
   obtain ⟨rfl,rfl,rfl⟩:=tri h
   exact hc.mono fun e w' ⟨⟨h1,h2⟩,h3⟩=>⟨h1,h2,h3⟩
  ·rw [if_neg hk] at h
   simp only [if_neg hk] at hc
   obtain ⟨rfl,rfl,rfl⟩:=tri h
   exact hc.mono fun e w' ⟨⟨h1,h2⟩,h3⟩=>⟨h1,h2,h3⟩
set_option maxHeartbeats 2000000 in
theorem token_any (h:tokAt l p = (x,err,q)):Calls Try.prog 83 #[.pointer (some ⟨B,0,none⟩)] w fun e w'=>TokPost w w' B A n c x err q e:=by
 obtain ⟨ad,hA,hcell⟩:=hr.at_ (p:Int) (by omega) (by omega)
 obtain rfl:=hA
 rw [Int.toNat_natCast] at hcell
 have hbk:=hb p
 have hn:=hr.2.1
 unfold tokAt at h
 have c0:=hs.c0
 have c1:=hs.c1
 have hltB:=hs.lt
 have hne1:B ≠ w.heap.size:=by omega
 have hlt2:B < w.heap.size + 1:=by omega
 have HR:=Lib.hid hr
 have HS:=Lib.hid hs
 have HB:=Lib.hid hb
 have HF:=Lib.hid hf
 have HA:=Lib.hid (World.block_lt_of_cell? w _ hcell)
 have hcell2:=(World.grownBy_alloc w (.cells #[.int .i64 0,.int .i64 0,.int .i64 0,.string ⟨#[]⟩] 92) none).cell hcell (by simp)
 by_cases h3:cls (rd l p) = 3
 ·rw [if_pos h3] at h
  have H:=Lib.hid h
  clear h hr hs hb hf
  generalize rd l p = cv at *
  go_enter Try.func83,Try.ntmps83
  go_wp2
  go_quiet ((go_at_call 88;exact Calls.quiet_of_same ((class_any cv hbk.1 hbk.2 _).mono fun e w' h=>⟨h.1,h.2.symm⟩)))
  go_wp2_with (go_at_call 90;refine (name_tok B (some ad) n c p l _ x err q (by exact (HS.out.alloc _).drewN _) hp hnc (by exact reads_heap (reads_alloc HR.out _) rfl) HF.out HB.out H.out).mono ?_;rintro e w' ⟨rfl,hs1,hg1⟩;have hR1:=(hg1.block w.heap.size (by simp) (by simpa using Ne.symm hne1)).trans (heap_alloc_new w _);have t0:=row_cell hR1;have HS1:=Lib.hid hs1;have HG1:=Lib.hid hg1;have HR1:=Lib.hid hR1;clear hs1 hg1 hR1)
  refine bodyPost_ret (v:=.tuple #[.agg #[.int .i64 x.kind,.int .i64 x.at_,.int .i64 x.value,.string x.name],.int .i64 err]) (by exact tok_results Try.results83 rfl rfl (four_row HR1.out) rfl) rfl ⟨rfl,?_,?_⟩
  ·exact (((HS1.out.far hne1 _ _).far hne1 _ _).far hne1 _ _).far hne1 _ _
  ·exact grown_new (grown_new (grown_new (grown_new ((grown_draw (grown_alloc (grown_refl w (some B)) _) _).trans HG1.out) (Nat.le_refl _) _ _) (Nat.le_refl _) _ _) (Nat.le_refl _) _ _) (Nat.le_refl _) _ _
 rw [if_neg h3] at h
 by_cases h2:cls (rd l p) = 2
 ·rw [if_pos h2] at h
  have H:=Lib.hid h
  have HC:=Lib.hid h2
  clear h hr hs hb hf h3
  generalize hcv:rd l p = cv at hcell hcell2 hbk h2
  clear hcv
  go_enter Try.func83,Try.ntmps83
  go_wp2
  go_quiet ((go_at_call 88;exact Calls.quiet_of_same ((class_any cv hbk.1 hbk.2 _).mono fun e w' h=>⟨h.1,h.2.symm⟩)))
  go_wp2_with (go_at_call 91;refine (number_tok B (some ad) n c p l _ x err q (by exact (HS.out.alloc _).drewN _) hp hnc (by exact reads_heap (reads_alloc HR.out _) rfl) HF.out HB.out HC.out H.out).mono ?_;rintro e w' ⟨rfl,hs1,hg1⟩;have hR1:=(hg1.block w.heap.size (by simp) (by simpa using Ne.symm hne1)).trans (heap_alloc_new w _);have t0:=row_cell hR1;have HS1:=Lib.hid hs1;have HG1:=Lib.hid hg1;have HR1:=Lib.hid hR1;clear hs1 hg1 hR1)
  refine bodyPost_ret (v:=.tuple #[.agg #[.int .i64 x.kind,.int .i64 x.at_,.int .i64 x.value,.string x.name],.int .i64 err]) (by exact tok_results Try.results83 rfl rfl (four_row HR1.out) rfl) rfl ⟨rfl,?_,?_⟩
  ·exact (((HS1.out.far hne1 _ _).far hne1 _ _).far hne1 _ _).far hne1 _ _
  ·exact grown_new (grown_new (grown_new (grown_new ((grown_draw (grown_alloc (grown_refl w (some B)) _) _).trans HG1.out) (Nat.le_refl _) _ _) (Nat.le_refl _) _ _) (Nat.le_refl _) _ _) (Nat.le_refl _) _ _
 rw [if_neg h2] at h
 by_cases h4:cls (rd l p) = 4
 ·rw [if_pos h4] at h
  have H:=Lib.hid h
  clear h hr hs hb hf h3 h2
  generalize hcv:rd l p = cv at *
  clear hcv
  go_enter Try.func83,Try.ntmps83
  go_wp2
  go_quiet ((go_at_call 88;exact Calls.quiet_of_same ((class_any cv hbk.1 hbk.2 _).mono fun e w' h=>⟨h.1,h.2.symm⟩)))
  go_wp2_with (go_at_call 92;refine (sign_tok B (some ad) n c p l _ x err q (by exact (HS.out.alloc _).drewN _) hp hnc (by exact reads_heap (reads_alloc HR.out _) rfl) H.out).mono ?_;rintro e w' ⟨rfl,hs1,hg1⟩;have hR1:=(hg1.block w.heap.size (by simp) (by simpa using Ne.symm hne1)).trans (heap_alloc_new w _);have t0:=row_cell hR1;have HS1:=Lib.hid hs1;have HG1:=Lib.hid hg1;have HR1:=Lib.hid hR1;clear hs1 hg1 hR1)
  refine bodyPost_ret (v:=.tuple #[.agg #[.int .i64 x.kind,.int .i64 x.at_,.int .i64 x.value,.string x.name],.int .i64 err]) (by exact tok_results Try.results83 rfl rfl (four_row HR1.out) rfl) rfl ⟨rfl,?_,?_⟩
  ·exact (((HS1.out.far hne1 _ _).far hne1 _ _).far hne1 _ _).far hne1 _ _
  ·exact grown_new (grown_new (grown_new (grown_new ((grown_draw (grown_alloc (grown_refl w (some B)) _) _).trans HG1.out) (Nat.le_refl _) _ _) (Nat.le_refl _) _ _) (Nat.le_refl _) _ _) (Nat.le_refl _) _ _
 rw [if_neg h4] at h
 obtain ⟨rfl,rfl,rfl⟩:=tri h
 have k3:(cls (rd l p) == 3) = false:=by simpa using h3
 have k2:(cls (rd l p) == 2) = false:=by simpa using h2
 have k4:(cls (rd l p) == 4) = false:=by simpa using h4
 clear h hr hs hb hf h2 h3 h4
 generalize rd l p = cv at *
 go_enter Try.func83,Try.ntmps83
 go_wp2
 go_quiet ((go_at_call 88;exact Calls.quiet_of_same ((class_any cv hbk.1 hbk.2 _).mono fun e w' h=>⟨h.1,h.2.symm⟩)))
 go_wp2
 refine bodyPost_ret (v:=.tuple #[.agg Tok.nil.cells,.int .i64 20]) (by exact tok_results Try.results83 rfl rfl (four_row (heap_alloc_new w _)) rfl) rfl ⟨rfl,?_,?_⟩
 ·exact (((((HS.out.alloc _).drewN _).far hne1 _ _).far hne1 _ _).far hne1 _ _).far hne1 _ _
 ·exact grown_new (grown_new (grown_new (grown_new (grown_draw (grown_alloc (grown_refl w (some B)) _) _) (Nat.le_refl _) _ _) (Nat.le_refl _) _ _) (Nat.le_refl _) _ _) (Nat.le_refl _) _ _
end
end Go.Proofs.Ytgbeliajhccndaa.Lex
end
section
set_option linter.unusedVariables false
set_option linter.unusedSimpArgs false
namespace Go.Proofs.Ytgbeliajhccndaa.Lex
open Go.RowKit Go.Proofs.YtgbeliajhccndaaW.PrintWords Go.Proofs.YtgbeliajhccndaaW.PrintLast Go.Proofs.YtgbeliajhccndaaW.PrintMore
def lexFrom (l:List Int):Nat → Nat → List Tok → List Tok × Int × Int
 | 0,_,acc=>(acc,0,0)
 | k + 1,p,acc=>
   if (skipL false (l.drop p)).2 = false then (acc,p + (skipL false (l.drop p)).1,20)
   else if l.length ≤ p + (skipL false (l.drop p)).1 then (acc,0,0)
   else if (tokAt l (p + (skipL false (l.drop p)).1)).2.1 ≠ 0 then (acc,(tokAt l (p + (skipL false (l.drop p)).1)).2.2,(tokAt l (p + (skipL false (l.drop p)).1)).2.1)
   else lexFrom l k (tokAt l (p + (skipL false (l.drop p)).1)).2.2 (acc ++ [(tokAt l (p + (skipL false (l.drop p)).1)).1])
def lexAll (l:List Int):List Tok × Int × Int:=lexFrom l (l.length + 1) 0 []
def LexIs (l:List Int) (k p:Nat) (acc out:List Tok) (place err:Int):Prop:=lexFrom l k p acc = (out,place,err)
section
variable {l:List Int} {k p q t:Nat} {acc out:List Tok} {place err e:Int} {x:Tok} {ok:Bool}
theorem lex_bad (h:LexIs l (k + 1) p acc out place err) (hs:SkipTo l false p t false):out = acc ∧ place = t ∧ err = 20:=by
 unfold LexIs lexFrom at h
 rw [if_pos hs.2] at h
 obtain ⟨h1,h2,h3⟩:=tri h
 exact ⟨h1.symm,by rw [← h2,← hs.1];simp,h3.symm⟩
theorem lex_end (h:LexIs l (k + 1) p acc out place err) (hs:SkipTo l false p t true) (ht:l.length ≤ t):out = acc ∧ place = 0 ∧ err = 0:=by
 unfold LexIs lexFrom at h
 rw [if_neg (by rw [hs.2];decide),if_pos (by rw [hs.1];exact ht)] at h
 obtain ⟨h1,h2,h3⟩:=tri h
 exact ⟨h1.symm,h2.symm,h3.symm⟩
theorem lex_fault (h:LexIs l (k + 1) p acc out place err) (hs:SkipTo l false p t true) (ht:t < l.length) (hk:tokAt l t = (x,e,q)) (he:e ≠ 0):out = acc ∧ place = q ∧ err = e:=by
 unfold LexIs lexFrom at h
 rw [if_neg (by rw [hs.2];decide),if_neg (by rw [hs.1];omega),hs.1,hk,if_pos he] at h
 obtain ⟨h1,h2,h3⟩:=tri h
 exact ⟨h1.symm,h2.symm,h3.symm⟩
theorem lex_next (h:LexIs l (k + 1) p acc out place err) (hs:SkipTo l false p t true) (ht:t < l.length) (hk:tokAt l t = (x,0,q)):LexIs l k q (acc ++ [x]) out place err:=by
 unfold LexIs at h ⊢
 rw [lexFrom,if_neg (by rw [hs.2];decide),if_neg (by rw [hs.1];omega),hs.1,hk,if_neg (by simp)] at h
 exact h
theorem tokAt_ok (hp:p < l.length) (h:tokAt l p = (x,0,q)):p < q ∧ q ≤ l.length:=by
 have h3:∀ b,strL b (l.drop p) ≤ l.length - p:=fun b=>by have:=strL_le b (l.drop p);rwa [List.length_drop] at this
 unfold tokAt at h
 split at h
 ·rename_i hc
  unfold nameAt at h
  split at h
  ·obtain ⟨_,h2,_⟩:=tri h;simp at h2
  ·obtain ⟨_,_,rfl⟩:=tri h
   have:=h3 true
   have h4:0 < strL true (l.drop p):=by rw [strL_step true l p hp];simp [strOk,hc]
   omega
 ·split at h
  ·rename_i hc
   unfold numberAt at h
   split at h
   ·obtain ⟨_,h2,_⟩:=tri h;simp at h2
   ·cases hN:numFrom 0 ((l.drop p).take (strL false (l.drop p))) with
    | none=>rw [hN] at h;obtain ⟨_,h2,_⟩:=tri h;simp at h2
    | some v=>
      rw [hN] at h
      obtain ⟨_,_,rfl⟩:=tri h
      have:=h3 false
      have h4:0 < strL false (l.drop p):=by rw [strL_step false l p hp];simp [strOk,hc]
      omega
  ·split at h
   ·unfold signAt at h
    split at h
    ·rename_i hc
     obtain ⟨_,_,rfl⟩:=tri h
     omega
    ·split at h
     ·obtain ⟨_,h2,_⟩:=tri h;simp at h2
     ·obtain ⟨_,_,rfl⟩:=tri h
      omega
   ·obtain ⟨_,h2,_⟩:=tri h;simp at h2
theorem skip_to (l:List Int) (p:Nat) (hp:p ≤ l.length):∃ t ok,SkipTo l false p t ok ∧ p ≤ t ∧ t ≤ l.length:=by
 refine ⟨_,_,⟨rfl,rfl⟩,by omega,?_⟩
 have:=skipL_le false (l.drop p)
 rw [List.length_drop] at this
 omega
end
def kTok:Kd Tok:=Kd.iso (Kd.pair (Kd.int .i64) (Kd.pair (Kd.int .i64) (Kd.pair (Kd.int .i64) Kd.string))) (fun x:Tok=>(x.kind,x.at_,x.value,x.name))
theorem kTok_mkM (w:World) (base:Nat) (ok:Nat → Prop) (x:Tok):kTok.M w base ok x [.int .i64 x.kind,.int .i64 x.at_,.int .i64 x.value,.string x.name]:=⟨[.int .i64 x.kind],[.int .i64 x.at_,.int .i64 x.value,.string x.name],rfl,rfl,⟨[.int .i64 x.at_],[.int .i64 x.value,.string x.name],rfl,rfl,⟨[.int .i64 x.value],[.string x.name],rfl,rfl,rfl⟩⟩⟩
theorem kTok_open {w:World} {x:Tok} {cs:List Value} (h:kTok.K w x cs):cs = [.int .i64 x.kind,.int .i64 x.at_,.int .i64 x.value,.string x.name]:=by
 obtain ⟨_,_,rfl,rfl,⟨_,_,rfl,rfl,⟨_,_,rfl,rfl,rfl⟩⟩⟩:=h
 exact rfl
theorem info33:(Try.prog.info? 92).map (fun i=>(i.zero,i.size,i.bytes)) = some (some (.agg #[.int .i64 0,.int .i64 0,.int .i64 0,.string ⟨#[]⟩]),4,40):=by kernel_rfl
end Go.Proofs.Ytgbeliajhccndaa.Lex
end
section
set_option linter.unusedVariables false
set_option linter.unusedSimpArgs false
namespace Go.Proofs.Ytgbeliajhccndaa.Lex
open Go.RowKit Go.Proofs.YtgbeliajhccndaaW.PrintWords Go.Proofs.YtgbeliajhccndaaW.PrintLast Go.Proofs.YtgbeliajhccndaaW.PrintMore
def Stop (p:Prop):Prop:=p
theorem stop_intro {p:Prop} (h:Stop p):p:=h
theorem below_row_grown {w w1 w2:World} {B:Nat} (h:Below w.heap.size w w1) (hB:w.heap.size ≤ B) (hg:w1.grownBy w2 (some B)):Below w.heap.size w w2:=
 h.grown hg h.size (fun k hk=>by cases hk;exact hB)
theorem own_row_grown {w1 w2:World} {B base:Nat} {v:Value} {xs:List Tok} (h:kTok.R 92 w1 base (fun k=>k ≠ B) v xs) (hg:w1.grownBy w2 (some B)):kTok.R 92 w2 base (fun k=>k ≠ B) v xs:=
 Kd.R_grown h hg (fun k hk he=>hk (Option.some.inj he))
theorem own_row_alloc {w1:World} {base:Nat} {ok:Nat → Prop} {v:Value} {xs:List Tok} (h:kTok.R 92 w1 base ok v xs) (o:Obj):kTok.R 92 (w1.alloc o) base ok v xs:=
 Kd.R_below h ((Below.refl _ _).alloc (Nat.le_refl _) o)
set_option maxHeartbeats 4000000 in
theorem tokens_any (A:Option Addr) (n c:Nat) (l:List Int) (w:World) (out:List Tok) (place err:Int) (hnc:n ≤ c) (hr:ReadsInt w .u8 A n l) (hb:byteRange l) (hn:n ≤ 3000000000000) (h:lexAll l = (out,place,err)) :
 Calls Try.prog 59 #[.slice A n c] w fun e w'=>∃ v,e = .returned (.tuple #[v,.int .i64 place,.int .i64 err]) ∧ kTok.R 92 w' w.heap.size (fun _=>True) v out ∧ Below w.heap.size w w':=by
 have hll:=hr.1
 have hL:LexIs l (n + 1) 0 [] out place err:=by unfold LexIs;rw [← hll];exact h
 have hf:Far A w.heap.size n:=by
  intro h0 ad hA
  obtain ⟨ad',hA',hc⟩:=hr.2.2 h0
  obtain rfl:=Option.some.inj (hA.symm.trans hA')
  have:=World.block_lt_of_cell? w _ (hc 0 h0)
  rw [show ad.add 0 = ad by unfold Addr.add;simp] at this
  omega
 have HR:=Lib.hid hr
 have HB:=Lib.hid hb
 have HF:=Lib.hid hf
 have HL:=Lib.hid hL
 have HLL:=Lib.hid hll
 clear hr hb hf hL h hll
 go_enter Try.func59,Try.ntmps59
 go_wp2
 go_loopg [6] (n + 1) (fun g v wr=>∃ (p:Nat) (xs:List Tok),p ≤ n ∧ n < p + g ∧ xs.length ≤ p ∧ Hid (RS wr w.heap.size A n c p) ∧ Hid (kTok.R 92 wr w.heap.size (fun k=>k ≠ w.heap.size) v xs) ∧ Hid (Below w.heap.size w wr) ∧ Hid (LexIs l g p xs out place err))
 case atStart=>exact ⟨0,[],Nat.zero_le _,by omega,by simp,Lib.hid (heap_alloc_new w _),Lib.hid (Kd.R_nil _ _ _ _ _),Lib.hid ((Below.refl _ _).alloc (Nat.le_refl _) _),HL⟩
 case round=>
  obtain ⟨p,xs,hp,hpg,hxs,HS1,HO1,HB1,HL1⟩:=hrel
  obtain ⟨g,rfl⟩:∃ g,gk = g + 1:=⟨gk - 1,by omega⟩
  obtain ⟨t,ok,hsk,hpt,htl⟩:=skip_to l p (by rw [HLL.out];exact hp)
  rw [HLL.out] at htl
  have HR1:=Lib.hid (HR.out.below HB1.out)
  have HSK:=Lib.hid hsk
  clear hsk
  cases ok
  ·have HBD:=Lib.hid (lex_bad HL1.out HSK.out)
   go_wp2_with (go_at_call 82;refine (skip_any w.heap.size A n c p t false l _ (by exact HS1.out) hp hnc (by exact HR1.out) HF.out HB.out HSK.out).mono ?_;rintro e w' ⟨rfl,hs2,hg2⟩;have d1:=hs2.c1;have HG2:=Lib.hid hg2;clear hs2 hg2)
   go_quiet (fail)
   go_wp2
   go_ret3
   obtain ⟨f1,f2,f3⟩:=HBD.out
   rw [f1,f2,f3]
   exact ⟨_,rfl,Kd.R_mono (Kd.R_below (own_row_grown HO1.out HG2.out) (by exact (Drawn0.below ⟨_,rfl⟩))) (fun _ _=>trivial),pw_below_drewN (below_row_grown HB1.out (Nat.le_refl _) HG2.out) _⟩
  ·by_cases hlt:t < n
   ·obtain ⟨⟨x,e1,q⟩,hk⟩:∃ r,tokAt l t = r:=⟨_,rfl⟩
    have HK:=Lib.hid hk
    clear hk
    by_cases he:e1 = 0
    ·subst he
     go_wp2_with (first | (go_at_call 82;refine (skip_any w.heap.size A n c p t true l _ (by exact HS1.out) hp hnc (by exact HR1.out) HF.out HB.out HSK.out).mono ?_;rintro e w' ⟨rfl,hs2,hg2⟩;have d1:=hs2.c1;have HS2:=Lib.hid hs2;have HG2:=Lib.hid hg2;have HR2:=Lib.hid (reads_grown HR1.out hg2 HF.out);clear hs2 hg2) | (go_at_call 83;refine (token_any w.heap.size A n c t l _ x 0 q (by exact HS2.out) hlt hnc (by exact HR2.out) HF.out HB.out HK.out).mono ?_;rintro e w' ⟨rfl,hs3,hg3⟩;have d2:=hs3.c1;have HS3:=Lib.hid hs3;have HB3:=Lib.hid (below_row_grown (below_row_grown HB1.out (Nat.le_refl _) HG2.out) (Nat.le_refl _) hg3);have HO3:=Lib.hid (own_row_grown (own_row_grown HO1.out HG2.out) hg3);have hsz:=hg3.size;clear hs3 hg3) | (at_builtin;refine stop_intro ?_))
     unfold Stop
     refine Kd.R_append kTok (w0:=w) w.heap.size rfl (.tmp 41) (.tmp 43) 88 92 (.agg #[.int .i64 0,.int .i64 0,.int .i64 0,.string ⟨#[]⟩]) 40 rfl Try.underlying88 info33 rfl (by decide) (by decide) _ xs x [.int .i64 x.kind,.int .i64 x.at_,.int .i64 x.value,.string x.name] (fun k=>k ≠ w.heap.size) (fun _=>False) rfl (congrArg (fun n=>Value.slice (some ⟨n,0,none⟩) 1 1) (size_alloc' _ _).symm) (kTok_mkM _ _ _ _) (fun _ h=>h.elim) ?fresh (own_row_alloc HO3.out _) (HB3.out.alloc HB3.out.size _) ?base ?len ?_
     case fresh=>intro k hk he;rw [size_alloc'] at hk;have:=HB3.out.size;omega
     case base=>rw [size_alloc'];have:=HB3.out.size;omega
     case len=>omega
     intro v1 w2 hO4 hB4 hg4 hat4
     have HO4:=Lib.hid hO4
     have HB4:=Lib.hid hB4
     have HS4:=Lib.hid ((HS3.out.alloc (.cells #[.int .i64 x.kind,.int .i64 x.at_,.int .i64 x.value,.string x.name] 92)).grown hg4 (fun he=>HO3.out.1 _ he.symm rfl))
     clear hO4 hB4 hg4 hat4
     have HN:=Lib.hid (lex_next HL1.out HSK.out (by rw [HLL.out];exact hlt) HK.out)
     have hq:=tokAt_ok (by rw [HLL.out];exact hlt) HK.out
     rw [HLL.out] at hq
     go_wp2
     go_roundg g
     case measure=>omega
     case rel=>exact ⟨q,xs ++ [x],hq.2,by omega,by simp;omega,HS4,HO4,HB4,HN⟩
    ·have heb:(e1 != 0) = true:=by simpa using he
     have hf:=lex_fault HL1.out HSK.out (by rw [HLL.out];exact hlt) HK.out he
     have HFT:=Lib.hid hf
     clear hf he
     go_wp2_with (first | (go_at_call 82;refine (skip_any w.heap.size A n c p t true l _ (by exact HS1.out) hp hnc (by exact HR1.out) HF.out HB.out HSK.out).mono ?_;rintro e w' ⟨rfl,hs2,hg2⟩;have d1:=hs2.c1;have HS2:=Lib.hid hs2;have HG2:=Lib.hid hg2;have HR2:=Lib.hid (reads_grown HR1.out hg2 HF.out);clear hs2 hg2) | (go_at_call 83;refine (token_any w.heap.size A n c t l _ x e1 q (by exact HS2.out) hlt hnc (by exact HR2.out) HF.out HB.out HK.out).mono ?_;rintro e w' ⟨rfl,hs3,hg3⟩;have d2:=hs3.c1;have d2a:=(hs3.alloc (.cells #[.int .i64 x.kind,.int .i64 x.at_,.int .i64 x.value,.string x.name] 92)).c1;have HS3:=Lib.hid hs3;have HB3:=Lib.hid (below_row_grown (below_row_grown HB1.out (Nat.le_refl _) HG2.out) (Nat.le_refl _) hg3);have HO3:=Lib.hid (own_row_grown (own_row_grown HO1.out HG2.out) hg3);have hsz:=hg3.size;clear hs3 hg3))
     go_quiet (fail)
     go_wp2
     go_ret3
     obtain ⟨f1,f2,f3⟩:=HFT.out
     rw [f1,f2,f3]
     exact ⟨_,rfl,Kd.R_mono (Kd.R_below (own_row_alloc HO3.out _) (by exact (Drawn0.below ⟨_,rfl⟩))) (fun _ _=>trivial),pw_below_drewN (HB3.out.alloc HB3.out.size _) _⟩
   ·obtain rfl:t = n:=by omega
    have HE:=Lib.hid (lex_end HL1.out HSK.out (by rw [HLL.out];omega))
    go_wp2_with (go_at_call 82;refine (skip_any w.heap.size A t c p t true l _ (by exact HS1.out) hp hnc (by exact HR1.out) HF.out HB.out HSK.out).mono ?_;rintro e w' ⟨rfl,hs2,hg2⟩;have d1:=hs2.c1;have HG2:=Lib.hid hg2;clear hs2 hg2)
    go_ret3
    obtain ⟨f1,f2,f3⟩:=HE.out
    rw [f1,f2,f3]
    exact ⟨_,rfl,Kd.R_mono (own_row_grown HO1.out HG2.out) (fun _ _=>trivial),below_row_grown HB1.out (Nat.le_refl _) HG2.out⟩
end Go.Proofs.Ytgbeliajhccndaa.Lex
end
