/- Lemmas of this claim (VB,SN,SO,SP). -/
import Derived.Test.YtgbeliajhccndaaKL
import Derived.Test.YtgbeliajhccndaaKB
section
set_option linter.unusedVariables false
set_option linter.unusedSimpArgs false
namespace Go.Proofs.Ytgbeliajhccndaa
open Go.RowKit Go.Proofs.YtgbeliajhccndaaW.PrintWords Go.Proofs.YtgbeliajhccndaaW.PrintLast Go.Proofs.YtgbeliajhccndaaW.PrintMore PP
theorem cellD {w:World} {a:Addr} {v:Value} (h:w.cell? a = some v):w.drew.cell? a = some v:=h
theorem cellF {w:World} {a:Addr} {v:Value} (h:w.cell? a = some v) {g i:Nat} (hne:a.block ≠ g) (u:Value):(w.setCell ⟨g,i,none⟩ u).cell? a = some v:=by
 exact (World.cell?_setCell_other w ⟨g,i,none⟩ a u (fun e=>hne (by rw [← e]))).trans h
theorem cellF5 {w:World} {a:Addr} {v:Value} (h:w.cell? a = some v) {g:Nat} (hne:a.block ≠ g) {u0 u1 u2 u3 u4:Value}:(((((w.setCell ⟨g,0,none⟩ u0).setCell ⟨g,1,none⟩ u1).setCell ⟨g,2,none⟩ u2).setCell ⟨g,3,none⟩ u3).setCell ⟨g,4,none⟩ u4).cell? a = some v:=
 cellF (cellF (cellF (cellF (cellF h hne _) hne _) hne _) hne _) hne _
theorem undrew {w W:World} (h:Below w.drew.heap.size w.drew W):Below w.heap.size w W:=below_then (below_drew (Below.refl _ _)) (Nat.le_refl _) h
theorem unalloc {w W:World} {cs:Array Value} {t:TypeId} (h:Below (w.alloc (.cells cs t)).drew.heap.size (w.alloc (.cells cs t)).drew W):Below w.heap.size w W ∧ W.heap[w.heap.size]? = some (.cells cs t (0,0)):=
 ⟨below_then (below_alloc (Below.refl _ _) _) (by simp) (undrew h),blkB (undrew h) (blk_new w _)⟩
theorem S2_blk {w:World} {g:Nat} {a b:Value} {t:Nat} (h:w.heap[g]? = some (.cells #[a,b] t (0,0))):w.cell? ⟨g,0,none⟩ = some a ∧ w.cell? ⟨g,1,none⟩ = some b:=
 ⟨(blk_cell h 0).trans rfl,(blk_cell h 1).trans rfl⟩
theorem S4_blk {w:World} {g:Nat} {a b c d:Value} {t:Nat} (h:w.heap[g]? = some (.cells #[a,b,c,d] t (0,0))):w.cell? ⟨g,0,none⟩ = some a ∧ w.cell? ⟨g,1,none⟩ = some b ∧ w.cell? ⟨g,2,none⟩ = some c ∧ w.cell? ⟨g,3,none⟩ = some d:=
 ⟨(blk_cell h 0).trans rfl,(blk_cell h 1).trans rfl,(blk_cell h 2).trans rfl,(blk_cell h 3).trans rfl⟩
theorem S5_blk {w:World} {g:Nat} {a b c d e:Value} {t:Nat} (h:w.heap[g]? = some (.cells #[a,b,c,d,e] t (0,0))):w.cell? ⟨g,0,none⟩ = some a ∧ w.cell? ⟨g,1,none⟩ = some b ∧ w.cell? ⟨g,2,none⟩ = some c ∧ w.cell? ⟨g,3,none⟩ = some d ∧ w.cell? ⟨g,4,none⟩ = some e:=
 ⟨(blk_cell h 0).trans rfl,(blk_cell h 1).trans rfl,(blk_cell h 2).trans rfl,(blk_cell h 3).trans rfl,(blk_cell h 4).trans rfl⟩
theorem S5_fz {w:World} {g:Nat} {a b c d e:Value} {t:Nat} (h:w.heap[g]? = some (.cells #[a,b,c,d,e] t (0,0))):w.frozen? ⟨g,0,none⟩ = false ∧ w.frozen? ⟨g,1,none⟩ = false ∧ w.frozen? ⟨g,2,none⟩ = false ∧ w.frozen? ⟨g,3,none⟩ = false ∧ w.frozen? ⟨g,4,none⟩ = false:=
 ⟨blk_frozen h 0,blk_frozen h 1,blk_frozen h 2,blk_frozen h 3,blk_frozen h 4⟩
theorem S5_D {w:World} {g:Nat} {a b c d e:Value} (z:w.cell? ⟨g,0,none⟩ = some a ∧ w.cell? ⟨g,1,none⟩ = some b ∧ w.cell? ⟨g,2,none⟩ = some c ∧ w.cell? ⟨g,3,none⟩ = some d ∧ w.cell? ⟨g,4,none⟩ = some e):w.drew.cell? ⟨g,0,none⟩ = some a ∧ w.drew.cell? ⟨g,1,none⟩ = some b ∧ w.drew.cell? ⟨g,2,none⟩ = some c ∧ w.drew.cell? ⟨g,3,none⟩ = some d ∧ w.drew.cell? ⟨g,4,none⟩ = some e:=z
theorem S5_O {w:World} {g:Nat} {a b c d e:Value} (z:w.cell? ⟨g,0,none⟩ = some a ∧ w.cell? ⟨g,1,none⟩ = some b ∧ w.cell? ⟨g,2,none⟩ = some c ∧ w.cell? ⟨g,3,none⟩ = some d ∧ w.cell? ⟨g,4,none⟩ = some e) (o:Obj):(w.alloc o).cell? ⟨g,0,none⟩ = some a ∧ (w.alloc o).cell? ⟨g,1,none⟩ = some b ∧ (w.alloc o).cell? ⟨g,2,none⟩ = some c ∧ (w.alloc o).cell? ⟨g,3,none⟩ = some d ∧ (w.alloc o).cell? ⟨g,4,none⟩ = some e:=
 ⟨cellO z.1 o,cellO z.2.1 o,cellO z.2.2.1 o,cellO z.2.2.2.1 o,cellO z.2.2.2.2 o⟩
theorem S6_blk {w:World} {g:Nat} {a b c d e f:Value} {t:Nat} (h:w.heap[g]? = some (.cells #[a,b,c,d,e,f] t (0,0))):w.cell? ⟨g,0,none⟩ = some a ∧ w.cell? ⟨g,1,none⟩ = some b ∧ w.cell? ⟨g,2,none⟩ = some c ∧ w.cell? ⟨g,3,none⟩ = some d ∧ w.cell? ⟨g,4,none⟩ = some e ∧ w.cell? ⟨g,5,none⟩ = some f:=
 ⟨(blk_cell h 0).trans rfl,(blk_cell h 1).trans rfl,(blk_cell h 2).trans rfl,(blk_cell h 3).trans rfl,(blk_cell h 4).trans rfl,(blk_cell h 5).trans rfl⟩
section
variable {α:Type} {d:Kd α} {e:Nat} {W W4:World} {base:Nat} {ok:Nat → Prop} {v:Value} {x:α} {cs:List Value}
theorem M_set (h:d.M W base ok x cs) {g t:Nat} {cells:Array Value} (hb:W.heap[g]? = some (.cells cells t (0,0))) (ht:∀ q,q ∈ d.E → q ≠ t) (j:Nat) (u:Value):d.M (W.setCell ⟨g,j,none⟩ u) base ok x cs:=
 d.M_mono (fun _ hk=>hk.1) (Kd.M_far (p:=⟨g,j,none⟩) (Kd.M_types h hb ht) (fun _ hk=>hk.2) u)
theorem M_apart (h:d.M W base ok x cs) {row:Option Nat} (hty:∀ k,row = some k → ∃ cells:Array Value,W.heap[k]? = some (.cells cells e (0,0))) (ht:∀ q,q ∈ d.E → q ≠ e):d.M W base (fun k=>ok k ∧ some k ≠ row) x cs:=
 d.M_mono (fun k hk=>⟨hk.1,fun he=>by
  obtain ⟨_,_,_,q,hq,c,hc⟩:=hk
  obtain ⟨c2,hc2⟩:=hty k he.symm
  rw [hc2] at hc
  injection hc with hc
  injection hc with _ hc
  exact ht q hq hc.symm⟩) (d.M_bound h)
theorem M_growT (h:d.M W base ok x cs) {row:Option Nat} (hg:W.grownBy W4 row) (hty:∀ k,row = some k → ∃ cells:Array Value,W.heap[k]? = some (.cells cells e (0,0))) (ht:∀ q,q ∈ d.E → q ≠ e):d.M W4 base ok x cs:=
 d.M_mono (fun _ hk=>hk.1) (Kd.M_grown (M_apart h hty ht) hg (fun _ hk=>hk.2))
theorem grown_ty {row:Option Nat} (hg:W.grownBy W4 row) (hr:∀ k,row = some k → ∃ cs:Array Value,W.heap[k]? = some (Obj.cells cs e (0,0))) {k t:Nat} {cs:Array Value} (hk:W.heap[k]? = some (Obj.cells cs t (0,0))) (ht:t ≠ e):W4.heap[k]? = some (Obj.cells cs t (0,0)):=by
 refine (hg.block k (blk_lt hk) (fun h=>?_)).trans hk
 obtain ⟨c,hc⟩:=hr k h.symm
 rw [hk] at hc
 injection hc with hc
 injection hc with _ hc
 exact ht hc
theorem ty_ne {k k' t t':Nat} {cs cs':Array Value} (h:W.heap[k]? = some (Obj.cells cs t (0,0))) (h':W.heap[k']? = some (Obj.cells cs' t' (0,0))) (ht:t ≠ t'):k ≠ k':=fun e=>by
 subst e
 rw [h] at h'
 injection h' with h'
 injection h' with _ h'
 exact ht h'
end
section
variable {P:Program} {ops:Array Oper} {o:Oper} {a:Act} {Q:Exit → Act → World → Prop} {Kc:Act → World → Prop} {E:Prop} {α:Type}
theorem app_at (d:Kd α) {W':World} (W:World) (base:Nat) (hgd:o.guard = none) (s x:Operand) (t e:TypeId) (z:Value) (bytes:Nat)
 (ho:o.op = .call { callee:=.builtin .append,args:=#[s,x],argTypes:=#[t,t] })
 (ht:P.underlying t = some (.slice e)) (hinfo:(P.info? e).map (fun i=>(i.zero,i.size,i.bytes)) = some (some z,d.sz,bytes)) (hz:z.cells.size = d.sz) (hs0:0 < d.sz) (hb0:0 < bytes)
 (v:Value) (xs:List α) (p:α) (cs:List Value) (hW:W' = W.alloc (.cells cs.toArray e)) (hs:a.eval s = v) (hx:a.eval x = .slice (some ⟨W.heap.size,0,none⟩) 1 1) (hp:d.M W base (fun _=>True) p cs) (hE:∀ q,q ∈ d.E → q ≠ e)
 (HO:d.R e W base (fun _=>True) v xs) (hbase:base ≤ W.heap.size) (hl:(xs.length + 1) * bytes ≤ 140737488355328)
 (h:∀ v1 w1,d.R e w1 base (fun _=>True) v1 (xs ++ [p]) → W.grownBy w1 v.ownBlock → Kc (a.put o.dst v1) w1) :
 if Region.wanted o (yielded ops a.tmps) = true then Oper.wp P o a W' Kc Q else E:=by
 subst hW
 have hw:Region.wanted o (yielded ops a.tmps) = true:=by simp [Region.wanted,hgd]
 have:=Kd.R_append_step (P:=P) (ops:=ops) (o:=o) (a:=a) (Q:=Q) (Kc:=Kc) d (w0:=W) base hw s x t e z bytes ho ht hinfo hz hs0 hb0 v xs p cs (fun _=>True) (fun k=>True ∧ some k ≠ v.ownBlock) hs hx (M_apart hp (Kd.R_typed HO) hE) (fun _ h=>h) (fun _ _=>trivial) HO (Below.refl _ _) hbase hl (fun v1 w1 h1 _ h2 _=>h v1 w1 h1 h2)
 rw [if_pos hw] at this ⊢
 exact this
end
theorem kL_M {W:World} {base b g c:Nat} {l:List Int} (h:(Kd.int .i64).R 3 W b (fun _=>True) (.slice (some ⟨g,0,none⟩) (l.length + 2) c) (l ++ [-71,-72])) (hb:base ≤ b):kL.M W base (fun _=>True) (l,true) [.slice (some ⟨g,0,none⟩) l.length c]:=
 ⟨_,rfl,.inr ⟨rfl,_,_,rfl,Kd.R_lower h hb⟩⟩
theorem kL_nil (W:World) (base:Nat):kL.M W base (fun _=>True) ([],false) [.slice none 0 0]:=⟨_,rfl,.inl ⟨rfl,rfl,rfl⟩⟩
theorem tl_mk {α:Type} {e:Nat} {d:Kd α} {ms xs:List α} {W:World} {base n m c:Nat} {ok:Nat → Prop} {A:Option Addr} (h:d.R e W base ok (.slice A m c) (xs ++ ms)) (hn:xs.length = n) (hm:m = n + ms.length):(tl e d ms).M W base ok (xs,true) [.slice A n c]:=by
 subst hn
 subst hm
 exact ⟨_,rfl,.inr ⟨rfl,A,c,rfl,h⟩⟩
theorem tl_nil {α:Type} (e:Nat) (d:Kd α) (ms:List α) (W:World) (base:Nat) {ok:Nat → Prop}:(tl e d ms).M W base ok ([],false) [.slice none 0 0]:=⟨_,rfl,.inl ⟨rfl,rfl,rfl⟩⟩
theorem f42_mk {W:World} {base:Nat} {ok:Nat → Prop} (x:S42) (b:Bool) {v3:Value} (g3:kL.M W base ok (x.f3,b) [v3]):f42.M W base ok (x,b) [.int .i64 x.f0,.int .i64 x.f1,.int .i64 x.f2,v3]:=
 ⟨[.int .i64 x.f0],[.int .i64 x.f1,.int .i64 x.f2,v3],rfl,rfl,⟨[.int .i64 x.f1],[.int .i64 x.f2,v3],rfl,rfl,⟨[.int .i64 x.f2],[v3],rfl,rfl,g3⟩⟩⟩
theorem f46_mk {W:World} {base:Nat} {ok:Nat → Prop} (x:S46) (b:Bool) {v0 v1 v4 v5:Value} (g0:kL.M W base ok (x.f0,b) [v0]) (g1:kL.M W base ok (x.f1,b) [v1]) (g4:kL.M W base ok (x.f2.f2,b) [v4]) (g5:kL.M W base ok (x.f3,b) [v5]):f46.M W base ok (x,b) [v0,v1,.int .i64 x.f2.f0,.int .i64 x.f2.f1,v4,v5]:=
 ⟨[v0],[v1,.int .i64 x.f2.f0,.int .i64 x.f2.f1,v4,v5],rfl,g0,⟨[v1],[.int .i64 x.f2.f0,.int .i64 x.f2.f1,v4,v5],rfl,g1,⟨[.int .i64 x.f2.f0,.int .i64 x.f2.f1,v4],[v5],rfl,⟨[.int .i64 x.f2.f0],[.int .i64 x.f2.f1,v4],rfl,rfl,⟨[.int .i64 x.f2.f1],[v4],rfl,rfl,g4⟩⟩,g5⟩⟩⟩
theorem f38_mk {W:World} {base:Nat} {ok:Nat → Prop} (x:S38) (b:Bool) {v1 v3 v4:Value} (g1:kL.M W base ok (x.f1,b) [v1]) (g3:(tl 42 f42 [m42]).M W base ok (tt x.f3,b) [v3]) (g4:(tl 46 f46 [m46]).M W base ok (tt x.f4,b) [v4]):f38.M W base ok (x,b) [.string x.f0,v1,.int .i64 x.f2,v3,v4]:=
 ⟨[.string x.f0],[v1,.int .i64 x.f2,v3,v4],rfl,rfl,⟨[v1],[.int .i64 x.f2,v3,v4],rfl,g1,⟨[.int .i64 x.f2],[v3,v4],rfl,rfl,⟨[v3],[v4],rfl,g3,g4⟩⟩⟩⟩
structure LimF (f:S38):Prop where
 p:f.f1.length ≤ 1000000000
 v:f.f3.length ≤ 1000000000
 b:f.f4.length ≤ 1000000000
 a:∀ v ∈ f.f3,v.f3.length ≤ 1000000000
 q:∀ b ∈ f.f4,b.f0.length ≤ 1000000000 ∧ b.f1.length ≤ 1000000000 ∧ b.f2.f2.length ≤ 1000000000 ∧ b.f3.length ≤ 1000000000
structure Le (w W:World) (gL g cap:Nat) (ps:List S38) (m:Int):Prop where
 below:Below w.heap.size w W
 lb:W.heap[gL]? = some (.cells #[.slice (some ⟨g,0,none⟩) ps.length cap,.int .i64 m] 32 (0,0))
 gl:w.heap.size ≤ gL
 rf:f38.R 38 W w.heap.size (fun _=>True) (.slice (some ⟨g,0,none⟩) (ps.length + 1) cap) (tt ps ++ [m38])
structure Ln (w W:World) (gS gL:Nat) (A:Option Addr) (n c:Nat) (m:Int) (vF:Value) (qs:List (S38 × Bool)):Prop where
 below:Below w.heap.size w W
 sb:W.heap[gS]? = some (.cells #[.slice A n c,.int .i64 m] 24 (0,0))
 lb:W.heap[gL]? = some (.cells #[vF,.int .i64 0] 32 (0,0))
 gl:w.heap.size ≤ gL
 rf:f38.R 38 W w.heap.size (fun _=>True) vF qs
theorem Ln.then_ {w W W':World} {gS gL n c:Nat} {A:Option Addr} {m:Int} {vF:Value} {qs:List (S38 × Bool)} (h:Ln w W gS gL A n c m vF qs) (hb:Below W.heap.size W W'):Ln w W' gS gL A n c m vF qs:=
 ⟨below_then h.below h.below.size hb,blkB hb h.sb,blkB hb h.lb,h.gl,Kd.R_below h.rf hb⟩
theorem Ln.app {w W W4:World} {gS gL n c:Nat} {A:Option Addr} {m:Int} {vF v1:Value} {qs qs':List (S38 × Bool)} (h:Ln w W gS gL A n c m vF qs) (hR:f38.R 38 W4 w.heap.size (fun _=>True) v1 qs') (hg:W.grownBy W4 vF.ownBlock):Ln w (W4.setCell ⟨gL,0,none⟩ v1) gS gL A n c m v1 qs':=by
 have hty:=Kd.R_typed h.rf
 have hs:=grown_ty hg hty h.sb (by decide)
 have hl:=grown_ty hg hty h.lb (by decide)
 exact ⟨below_set (h.below.grown hg h.below.size (Kd.R_base h.rf)) h.gl,blk_far hs (ty_ne hs hl (by decide)) _,(blk_set hl 0 v1).trans rfl,h.gl,Kd.R_set hR hl (by decide) 0 v1⟩
structure Lx (w W:World) (gS gL:Nat) (A:Option Addr) (n c:Nat) (m:Int) (gF cF:Nat) (ps:List S38):Prop where
 below:Below w.heap.size w W
 sb:W.heap[gS]? = some (.cells #[.slice A n c,.int .i64 m] 24 (0,0))
 lb:W.heap[gL]? = some (.cells #[.slice (some ⟨gF,0,none⟩) ps.length cF,.int .i64 0] 32 (0,0))
 gl:w.heap.size ≤ gL
 rf:f38.R 38 W w.heap.size (fun _=>True) (.slice (some ⟨gF,0,none⟩) (ps.length + 1) cF) (tt ps ++ [m38])
theorem Ln.mark {w W W4:World} {gS gL n c gF cF:Nat} {A:Option Addr} {m:Int} {vF:Value} {qs:List (S38 × Bool)} {ps:List S38} (h:Ln w W gS gL A n c m vF qs) (hR:f38.R 38 W4 w.heap.size (fun _=>True) (.slice (some ⟨gF,0,none⟩) (ps.length + 1) cF) (tt ps ++ [m38])) (hg:W.grownBy W4 vF.ownBlock):Lx w (W4.setCell ⟨gL,0,none⟩ (.slice (some ⟨gF,0,none⟩) ps.length cF)) gS gL A n c m gF cF ps:=by
 have hty:=Kd.R_typed h.rf
 have hs:=grown_ty hg hty h.sb (by decide)
 have hl:=grown_ty hg hty h.lb (by decide)
 exact ⟨below_set (h.below.grown hg h.below.size (Kd.R_base h.rf)) h.gl,blk_far hs (ty_ne hs hl (by decide)) _,(blk_set hl 0 _).trans rfl,h.gl,Kd.R_set hR hl (by decide) 0 _⟩
theorem Lx.main {w W:World} {gS gL n c gF cF:Nat} {A:Option Addr} {m:Int} {ps:List S38} (h:Lx w W gS gL A n c m gF cF ps):Le w (W.setCell ⟨gL,1,none⟩ (.int .i64 m)) gL gF cF ps m:=
 ⟨below_set h.below h.gl,(blk_set h.lb 1 _).trans rfl,h.gl,Kd.R_set h.rf h.lb (by decide) 1 _⟩
structure Lg {β γ:Type} (KV:Kd β) (KB:Kd γ) (wr W:World) (gf gg:Nat) (fc:Array Value) (nm:ByteArray) (r:Int) (l:List Int) (vP vV vB:Value) (xv:β) (xb:γ):Prop where
 below:Below wr.heap.size wr W
 fb:W.heap[gf]? = some (.cells fc 38 (0,0))
 gb:W.heap[gg]? = some (.cells #[.string nm,vP,.int .i64 r,vV,vB] 38 (0,0))
 ge:wr.heap.size ≤ gf ∧ wr.heap.size ≤ gg
 ne:gf ≠ gg
 rp:kL.M W wr.heap.size (fun _=>True) (l,true) [vP]
 rv:KV.M W wr.heap.size (fun _=>True) xv [vV]
 rb:KB.M W wr.heap.size (fun _=>True) xb [vB]
section
variable {β γ β' γ':Type} {KV:Kd β} {KB:Kd γ} {KV':Kd β'} {KB':Kd γ'} {wr W W' W4:World} {gf gg:Nat} {fc:Array Value} {nm:ByteArray} {r:Int} {l:List Int} {vP vV vB v1:Value} {xv:β} {xb:γ} {xv':β'} {xb':γ'}
theorem Lg.then_ (h:Lg KV KB wr W gf gg fc nm r l vP vV vB xv xb) (hb:Below W.heap.size W W'):Lg KV KB wr W' gf gg fc nm r l vP vV vB xv xb:=
 ⟨below_then h.below h.below.size hb,blkB hb h.fb,blkB hb h.gb,h.ge,h.ne,Kd.M_below h.rp hb,Kd.M_below h.rv hb,Kd.M_below h.rb hb⟩
theorem Lg.newV (h:Lg KV KB wr W gf gg fc nm r l vP vV vB xv xb) (hg:W.grownBy W4 vV.ownBlock) (hty:∀ k,vV.ownBlock = some k → wr.heap.size ≤ k ∧ ∃ cs:Array Value,W.heap[k]? = some (.cells cs 42 (0,0))) (hM:KV'.M W4 wr.heap.size (fun _=>True) xv' [v1]) (hE:∀ q,q ∈ KV'.E → q ≠ 38) (hB:∀ q,q ∈ KB.E → q ≠ 42 ∧ q ≠ 38):Lg KV' KB wr (W4.setCell ⟨gg,3,none⟩ v1) gf gg fc nm r l vP v1 vB xv' xb:=by
 have ht:=fun k hk=>(hty k hk).2
 have hf:=grown_ty hg ht h.fb (by decide)
 have hq:=grown_ty hg ht h.gb (by decide)
 exact ⟨below_set (h.below.grown hg h.below.size (fun k hk=>(hty k hk).1)) h.ge.2,blk_far hf h.ne _,(blk_set hq 3 v1).trans rfl,h.ge,h.ne,M_set (M_growT h.rp hg ht (by decide)) hq (by decide) 3 v1,M_set hM hq hE 3 v1,M_set (M_growT h.rb hg ht (fun q hq=>(hB q hq).1)) hq (fun q hq=>(hB q hq).2) 3 v1⟩
theorem Lg.newB (h:Lg KV KB wr W gf gg fc nm r l vP vV vB xv xb) (hg:W.grownBy W4 vB.ownBlock) (hty:∀ k,vB.ownBlock = some k → wr.heap.size ≤ k ∧ ∃ cs:Array Value,W.heap[k]? = some (.cells cs 46 (0,0))) (hM:KB'.M W4 wr.heap.size (fun _=>True) xb' [v1]) (hE:∀ q,q ∈ KB'.E → q ≠ 38) (hB:∀ q,q ∈ KV.E → q ≠ 46 ∧ q ≠ 38):Lg KV KB' wr (W4.setCell ⟨gg,4,none⟩ v1) gf gg fc nm r l vP vV v1 xv xb':=by
 have ht:=fun k hk=>(hty k hk).2
 have hf:=grown_ty hg ht h.fb (by decide)
 have hq:=grown_ty hg ht h.gb (by decide)
 exact ⟨below_set (h.below.grown hg h.below.size (fun k hk=>(hty k hk).1)) h.ge.2,blk_far hf h.ne _,(blk_set hq 4 v1).trans rfl,h.ge,h.ne,M_set (M_growT h.rp hg ht (by decide)) hq (by decide) 4 v1,M_set (M_growT h.rv hg ht (fun q hq=>(hB q hq).1)) hq (fun q hq=>(hB q hq).2) 4 v1,M_set hM hq hE 4 v1⟩
theorem Lg.initA {gp cp b:Nat} (hB:Below wr.heap.size wr W) (hF:W.heap[gf]? = some (.cells fc 38 (0,0))) (hG:wr.heap.size ≤ gf) (hb:wr.heap.size ≤ b) (hR:(Kd.int .i64).R 3 W b (fun _=>True) (.slice (some ⟨gp,0,none⟩) (l.length + 2) cp) (l ++ [-71,-72])) :
 Lg (Kd.slice 42 f42) (Kd.slice 46 f46) wr (W.alloc (.cells #[.string nm,.slice (some ⟨gp,0,none⟩) l.length cp,.int .i64 r,.slice none 0 0,.slice none 0 0] 38)) gf W.heap.size fc nm r l (.slice (some ⟨gp,0,none⟩) l.length cp) (.slice none 0 0) (.slice none 0 0) [] []:=
 ⟨below_alloc hB _,blkB (below_alloc (Below.refl _ _) _) hF,blk_new W _,⟨hG,hB.size⟩,Nat.ne_of_lt (blk_lt hF),Kd.M_below (kL_M hR hb) (below_alloc (Below.refl _ _) _),⟨_,rfl,Kd.R_nil _ _ _ _ _⟩,⟨_,rfl,Kd.R_nil _ _ _ _ _⟩⟩
theorem Lg.initB {gp cp b:Nat} {u0 u1 u2 u3 u4:Value} (hB:Below wr.heap.size wr W) (hF:W.heap[gf]? = some (.cells fc 38 (0,0))) (hG:wr.heap.size ≤ gf) (hb:wr.heap.size ≤ b) (hR:(Kd.int .i64).R 3 W b (fun _=>True) (.slice (some ⟨gp,0,none⟩) (l.length + 2) cp) (l ++ [-71,-72])) (hq:W.heap[gg]? = some (.cells #[u0,u1,u2,u3,u4] 38 (0,0))) (hgg:wr.heap.size ≤ gg) (hne:gf ≠ gg) :
 Lg (Kd.slice 42 f42) (Kd.slice 46 f46) wr (((((W.setCell ⟨gg,0,none⟩ (.string nm)).setCell ⟨gg,1,none⟩ (.slice (some ⟨gp,0,none⟩) l.length cp)).setCell ⟨gg,2,none⟩ (.int .i64 r)).setCell ⟨gg,3,none⟩ (.slice none 0 0)).setCell ⟨gg,4,none⟩ (.slice none 0 0)) gf gg fc nm r l (.slice (some ⟨gp,0,none⟩) l.length cp) (.slice none 0 0) (.slice none 0 0) [] []:=by
 have q1:=(blk_set hq 0 (.string nm)).trans rfl
 have q2:=(blk_set q1 1 (.slice (some ⟨gp,0,none⟩) l.length cp)).trans rfl
 have q3:=(blk_set q2 2 (.int .i64 r)).trans rfl
 have q4:=(blk_set q3 3 (.slice none 0 0)).trans rfl
 have q5:=(blk_set q4 4 (.slice none 0 0)).trans rfl
 have m0:kL.M W wr.heap.size (fun _=>True) (l,true) [.slice (some ⟨gp,0,none⟩) l.length cp]:=kL_M hR hb
 exact ⟨below_set (below_set (below_set (below_set (below_set hB hgg) hgg) hgg) hgg) hgg,blk_far (blk_far (blk_far (blk_far (blk_far hF hne _) hne _) hne _) hne _) hne _,q5,⟨hG,hgg⟩,hne,M_set (M_set (M_set (M_set (M_set m0 hq (by decide) _ _) q1 (by decide) _ _) q2 (by decide) _ _) q3 (by decide) _ _) q4 (by decide) _ _,⟨_,rfl,Kd.R_nil _ _ _ _ _⟩,⟨_,rfl,Kd.R_nil _ _ _ _ _⟩⟩
end
end Go.Proofs.Ytgbeliajhccndaa
end
section
set_option linter.unusedVariables false
set_option linter.unusedSimpArgs false
namespace Go.Proofs.Ytgbeliajhccndaa
open Go.RowKit Go.Proofs.YtgbeliajhccndaaW.PrintWords Go.Proofs.YtgbeliajhccndaaW.PrintLast Go.Proofs.YtgbeliajhccndaaW.PrintMore PP
def setB (l:List Bool) (b:Int):List Bool:=l.set b.toNat true
def reachL (n:Nat) (r:List Int):List Bool:=r.foldl setB (List.replicate n false)
theorem foldl_take {α β:Type} (f:β → α → β) (z:β) (l:List α) (d:α) {i:Nat} (hi:i < l.length):(l.take (i + 1)).foldl f z = f ((l.take i).foldl f z) (l.getD i d):=by
 rw [List.take_succ_eq_append_getElem hi,List.foldl_append]
 simp [List.getD_eq_getElem?_getD,hi]
theorem setB_length (l:List Bool) (b:Int):(setB l b).length = l.length:=by unfold setB;simp
theorem reach_len (n:Nat) (r:List Int):(reachL n r).length = n:=by
 unfold reachL
 have:∀ (r:List Int) (l:List Bool),(r.foldl setB l).length = l.length:=by
  intro r
  induction r with
  | nil=>intro l;rfl
  | cons a r ih=>intro l;rw [List.foldl_cons,ih,setB_length]
 rw [this];simp
theorem Kd.R_slice2 {α:Type} {d:Kd α} {e:Nat} {w:World} {base:Nat} {ok:Nat → Prop} {v:Value} {xs:List α} (h:d.R e w base ok v xs):∃ A c,v = .slice A xs.length c ∧ xs.length ≤ c:=by
 obtain ⟨A,c,h1,h2,_⟩:=Kd.R_reads h;exact ⟨A,c,h1,h2⟩
set_option maxRecDepth 100000 in
set_option maxHeartbeats 4000000 in
theorem Reach_any (A:Option Addr) (c:Nat) (ts:List (List Int)) (K:Nat) (r:List Int) (w:World) (hr:kR.C w A ts.length ts) (hg:goodB ts = true) (hts:ts.length ≤ 2000000) (hK:K ≤ 10000000) (h:lineOf ts K = some r) (hin:r.all (inB ts.length) = true) :
 Calls Try.prog 39 #[.slice A ts.length c] w fun e w'=>∃ v,e = .returned v ∧ Kd.bool.R 4 w' w.heap.size (fun _=>True) v (reachL ts.length r) ∧ Below w.heap.size w w':=by
 have HR:=Lib.hid hr
 have HG:=Lib.hid hg
 have HT:=Lib.hid hts
 have HK:=Lib.hid hK
 have HL:=Lib.hid h
 have HI:=Lib.hid hin
 clear hr hg hts hK h hin
 have hm:ts.length ≤ 281474976710656:=by have:=HT.out;omega
 have H0:Hid ((0:Int) ≤ (ts.length:Int) ∧ (ts.length:Int).toNat * 1 ≤ 281474976710656):=Lib.hid (by omega)
 go_enter Try.func39,Try.ntmps39
 go_wp2_with (first | (go_at_call 66;with_reducible refine Calls.mono (good_any A c ts _ HR.out) ?_;rintro e w1 ⟨rfl,hb⟩;rw [HG.out];have HB1:=Lib.hid hb;clear hb) | (go_at_call 67;refine stop_intro ?_) | ((with_reducible refine gate_dst (N:=11) rfl ?_);refine stop_intro ?_))
 unfold Stop
 refine Kd.R_make Kd.bool (w0:=w) w.heap.size 4 rfl (N:=11) rfl 76 _ _ rfl (ts.length:Int) rfl rfl Try.underlying76 (.bool false) 1 info4 rfl (by decide) (by omega) false (ok:=fun _=>True) (okp:=fun _=>True) rfl (fun _ hk=>hk) trivial H0.out.1 H0.out.2 HB1.out HB1.out.size ?_
 intro v1 w2 ho hb2 _ hnew
 rw [Int.toNat_natCast] at ho
 obtain ⟨A5,c5,hv1,_⟩:=Kd.R_slice2 ho
 obtain rfl:=hv1
 have HO:=Lib.hid ho
 have HB2:=Lib.hid hb2
 clear ho hb2 hnew
 go_wp2_with (first | (go_at_call 67;with_reducible refine Calls.mono (lined_any A c ts K r _ (Kd.C_below HR.out HB2.out) HG.out HT.out HK.out HL.out) ?_;rintro e w3 ⟨v2,rfl,hR2,hb⟩;obtain ⟨A6,c6,hv2⟩:=own_slice hR2;obtain rfl:=hv2;have HB3:=Lib.hid (below_then HB2.out HB2.out.size hb);have HO3:=Lib.hid (Kd.R_below HO.out hb);have HD3:=Lib.hid hR2;have HSZ:=Lib.hid hb.size;clear hb hR2) | (go_at_call 67;refine stop_intro ?_))
 go_loopg [5,15] (r.length) (fun k _ v wr=>∃ i:Nat,i ≤ r.length ∧ v = .int .i64 i ∧ Hid (i + k = r.length) ∧ Hid (Kd.bool.R 4 wr w.heap.size (fun _=>True) (.slice A5 ts.length c5) ((r.take i).foldl setB (List.replicate ts.length false))) ∧ Hid (wr.ownsRow w2.heap.size 3 1 (.slice A6 r.length c6) r.length (nums .i64 r)) ∧ Hid (Below w.heap.size w wr))
 case atStart=>exact ⟨0,by omega,rfl,Lib.hid (by omega),by simpa using HO3,HD3,HB3⟩
 case round=>
  clear HO3 HD3 HB3
  obtain ⟨i,hi,rfl,HJ,HO3,HD3,HB3⟩:=hrel
  by_cases hlt:i < r.length
  ·obtain ⟨g6,cap6,hu6,_,_,_,hn6⟩:=own_form HD3.out (by omega)
   injection hu6 with e1 _ e3
   subst e1;subst e3
   have q0:=(own_at HD3.out (i:Int) (by omega) (by omega)).1
   rw [Int.toNat_natCast,(by simp [rd]:rd r (i:Int) = r.getD i 0)] at q0
   have hx:=List.all_eq_true.1 HI.out _ (mem_getD 0 hlt)
   have HF:=Lib.hid (foldl_take setB (List.replicate ts.length false) r 0 hlt)
   generalize r.getD i 0 = x at *
   obtain ⟨x0,x1⟩:=inB_iff hx
   have hlen:((r.take i).foldl setB (List.replicate ts.length false)).length = ts.length:=reach_len ts.length (r.take i)
   obtain ⟨inner,ho⟩:=Kd.R_own HO3.out
   rw [hlen] at ho
   obtain ⟨g5,cap5,hu5,_,hb5,_,_⟩:=own_form ho (by omega)
   injection hu5 with e1 _ e3
   subst e1;subst e3
   have hcx:=(Kd.R_cell false (by rw [hlen];exact HO3.out) x x0 (by rw [hlen];exact x1))
   obtain ⟨hc1,hc2⟩:=hcx
   have HP:=Kd.R_putg HO3.out x true
   have HPR:=Lib.hid HP.1
   have HPG:=Lib.hid HP.2
   have HDP:=Lib.hid (own_other HD3.out HPG.out (own_type_ne HD3.out ho (by decide)))
   clear ho HP
   go_wp2
   go_roundg (gk - 1)
   case measure=>have:=HJ.out;omega
   case rel=>exact ⟨i + 1,by omega,by go_num,Lib.hid (by have:=HJ.out;omega),Lib.hid (by rw [HF.out];exact HPR.out),HDP,Lib.hid (below_set HB3.out hb5)⟩
  ·have hil:i = r.length:=by omega
   subst hil
   go_wp2
   go_ret
   refine ⟨_,rfl,?_,HB3.out⟩
   have:=HO3.out
   rw [List.take_length] at this
   exact this
def reachE (d:Ck) (r:List Int):Int:=if (reachL (waysL d.f).length r).all id = true then 0 else 92
set_option maxHeartbeats 4000000 in
theorem reach_any (g:Nat) (d:Ck) (v3 v4 v5 v6:Value) (K:Nat) (r:List Int) (w:World) (h:CkW w g d v3 v4 v5 v6) (hb4:d.f.f4.length ≤ 2000000) (hg:goodB (waysL d.f) = true) (hK:K ≤ 10000000) (hl:lineOf (waysL d.f) K = some r) (hin:r.all (inB (waysL d.f).length) = true) :
 Calls Try.prog 22 #[.pointer (some ⟨g,0,none⟩)] w fun e w'=>e = .returned (.int .i64 (reachE d r)) ∧ Below w.heap.size w w':=by
 have HK:=Lib.hid h
 have H4:=Lib.hid hb4
 have HG:=Lib.hid hg
 have HKK:=Lib.hid hK
 have HL:=Lib.hid hl
 have HI:=Lib.hid hin
 have HLW:Hid ((waysL d.f).length ≤ 2000000):=Lib.hid (by unfold waysL;rw [List.length_map];exact hb4)
 have HE:Hid (reachE d r = if (reachL (waysL d.f).length r).all id = true then 0 else 92):=Lib.hid rfl
 clear h hb4 hg hK hl hin
 generalize reachE d r = R at *
 go_enter Try.func22,Try.ntmps22
 go_wp2_with (first | (go_at_call 37;with_reducible refine Calls.mono (ways_any g d v3 v4 v5 v6 _ HK.out H4.out) ?_;rintro e w1 ⟨A1,c1,rfl,hc1,hC1,hb1⟩;have HC1:=Lib.hid hC1;have HB1:=Lib.hid hb1;clear hC1 hb1) | (go_at_call 39;with_reducible refine Calls.mono (Reach_any A1 c1 _ K r _ HC1.out HG.out HLW.out HKK.out HL.out HI.out) ?_;rintro e w2 ⟨v,rfl,hR,hb2⟩;obtain ⟨A2,c2,rfl,hc2,hC2⟩:=Kd.R_reads hR;have HC2:=Lib.hid hC2;have HB2:=Lib.hid (below_then HB1.out HB1.out.size hb2);clear hR hC2 hb2) | (go_at_call 38;with_reducible refine Calls.mono (all_bool A2 c2 _ _ HC2.out) ?_;rintro e w3 ⟨rfl,hb3⟩;obtain ⟨b,hbq⟩:∃ b,(reachL (waysL d.f).length r).all id = b:=⟨_,rfl⟩;rw [hbq];have HBQ:=Lib.hid hbq;have HB3:=Lib.hid (below_then HB2.out HB2.out.size hb3);clear hb3 hbq) | (go_at_call 39;refine stop_intro ?_) | (go_at_call 38;refine stop_intro ?_))
 all_goals
  go_ret
  refine ⟨ret_i ?_,HB3.out⟩
  rw [HE.out,HBQ.out]
  first | (rw [if_pos (by simpa using ‹(!b) = false›)];done) | (rw [if_neg (by simpa using ‹(!b) = true›)];done)
end Go.Proofs.Ytgbeliajhccndaa
end
section
set_option linter.unusedVariables false
set_option linter.unusedSimpArgs false
namespace Go.Proofs.Ytgbeliajhccndaa
open Go.RowKit Go.Proofs.YtgbeliajhccndaaW.PrintWords Go.Proofs.YtgbeliajhccndaaW.PrintLast Go.Proofs.YtgbeliajhccndaaW.PrintMore PP
def phiB (f:S38) (n:Nat) (v:Int):Bool:=opAt f v == 32 && (((rd_T42 f.f3 v).f3.length:Int) == (n:Int))
def phisBlk (f:S38) (b:S46):Bool:=b.f0.all (phiB f b.f3.length) && b.f1.all (fun v=>opAt f v != 32)
def phisE (f:S38):Int:=if (f.f4.getD 0 z46).f0.length = 0 ∧ f.f4.all (phisBlk f) = true then 0 else 93
theorem enter41 (args:Array Value) (w:World):(callFunc 41 args).run Try.prog w = .ok (.enter 41 args) w:=run_enter Try.func41 (by kernel_rfl) (by kernel_rfl) args w
theorem enter43 (args:Array Value) (w:World):(callFunc 43 args).run Try.prog w = .ok (.enter 43 args) w:=run_enter Try.func43 (by kernel_rfl) (by kernel_rfl) args w
set_option maxHeartbeats 2000000 in
theorem phi_any (g g2 g3:Nat) (d:Ck) (v3 v4 v5 v6:Value) (a:Int) (B:Option Addr) (n c:Nat) (w:World) (h:CkW w g d v3 v4 v5 v6) (h2:w.cell? ⟨g2,0,none⟩ = some (.pointer (some ⟨g,0,none⟩))) (h3:w.cell? ⟨g3,5,none⟩ = some (.slice B n c)) (ha:inB d.f.f3.length a = true) :
 Calls Try.prog 41 #[.int .i64 a,.pointer (some ⟨g2,0,none⟩),.pointer (some ⟨g3,0,none⟩)] w fun e w'=>e = .returned (.bool (phiB d.f n a)) ∧ Below w.heap.size w w':=by
 obtain ⟨ad3,B3,d3,hA3,t0,_,_,t3,_,_⟩:=val_at h.at_.r3 ha
 have hm3:=h.at_.r3.2.1
 have y2:=h.y2
 have x3:=h.at_.c3
 rw [hA3] at x3
 obtain ⟨a0,a1⟩:=inB_iff ha
 have HD:Hid (phiB d.f n a = (opAt d.f a == 32 && (((rd_T42 d.f.f3 a).f3.length:Int) == (n:Int)))):=Lib.hid rfl
 clear ha h hA3
 generalize opAt d.f a = o at *
 by_cases ho:o = 32
 ·subst ho
  go_enter Try.func41,Try.ntmps41
  go_wp2
  go_quiet (fail)
  go_wp2
  go_ret
  exact ⟨ret_bool (by rw [HD.out];first | rfl | simp),pw_below_drewN (Below.refl _ _) _⟩
 ·have ho':(o == 32) = false:=by simpa using ho
  go_enter Try.func41,Try.ntmps41
  go_wp2
  go_quiet (fail)
  go_wp2
  go_ret
  exact ⟨ret_bool (by rw [HD.out,ho'];rfl),pw_below_drewN (Below.refl _ _) _⟩
set_option maxHeartbeats 2000000 in
theorem nophi_any (g g2:Nat) (d:Ck) (v3 v4 v5 v6:Value) (a:Int) (w:World) (h:CkW w g d v3 v4 v5 v6) (h2:w.cell? ⟨g2,0,none⟩ = some (.pointer (some ⟨g,0,none⟩))) (ha:inB d.f.f3.length a = true) :
 Calls Try.prog 43 #[.int .i64 a,.pointer (some ⟨g2,0,none⟩)] w fun e w'=>e = .returned (.bool (opAt d.f a != 32)) ∧ Below w.heap.size w w':=by
 obtain ⟨ad3,B3,d3,hA3,t0,_,_,_,_,_⟩:=val_at h.at_.r3 ha
 have hm3:=h.at_.r3.2.1
 have y2:=h.y2
 have x3:=h.at_.c3
 rw [hA3] at x3
 obtain ⟨a0,a1⟩:=inB_iff ha
 clear ha h hA3
 generalize opAt d.f a = o at *
 go_enter Try.func43,Try.ntmps43
 go_wp2
 go_ret
 exact ⟨rfl,Below.refl _ _⟩
theorem all_phis (g g2 g3:Nat) (d:Ck) (v3 v4 v5 v6:Value) (b:S46) (B0 B1 B4 B5:Option Addr) (d0 d1 d4 d5:Nat) (w:World) (h:CkW w g d v3 v4 v5 v6) (h2:w.heap[g2]? = some (.cells #[.pointer (some ⟨g,0,none⟩)] 56 (0,0)))
 (h3:w.heap[g3]? = some (.cells #[.slice B0 b.f0.length d0,.slice B1 b.f1.length d1,.int .i64 b.f2.f0,.int .i64 b.f2.f1,.slice B4 b.f2.f2.length d4,.slice B5 b.f3.length d5] 46 (0,0)))
 (hr:(Kd.int .i64).C w B0 b.f0.length b.f0) (hc:b.f0.length ≤ d0) (hin:b.f0.all (inB d.f.f3.length) = true) :
 Calls Try.prog 42 #[.slice B0 b.f0.length d0,.func (.func 41) #[] #[.pointer (some ⟨g2,0,none⟩),.pointer (some ⟨g3,0,none⟩)]] w fun e w'=>∃ t,e = .returned (.bool t) ∧ Hid (b.f0.all (phiB d.f b.f3.length) = t) ∧ Below w.heap.size w w':=
 by
 refine (all_int 41 _ (phiB d.f b.f3.length) B0 d0 b.f0 w hr hc enter41 (fun x hx W hb=>?_)).mono (fun e w' h=>⟨_,h.1,Lib.hid rfl,h.2⟩)
 exact phi_any g g2 g3 d v3 v4 v5 v6 x B5 b.f3.length d5 W (h.below hb) ((blk_cell (blkB hb h2) 0).trans rfl) ((blk_cell (blkB hb h3) 5).trans rfl) (List.all_eq_true.1 hin x hx)
theorem all_nophi (g g2:Nat) (d:Ck) (v3 v4 v5 v6:Value) (B1:Option Addr) (d1:Nat) (l:List Int) (w:World) (h:CkW w g d v3 v4 v5 v6) (h2:w.heap[g2]? = some (.cells #[.pointer (some ⟨g,0,none⟩)] 56 (0,0)))
 (hr:(Kd.int .i64).C w B1 l.length l) (hc:l.length ≤ d1) (hin:l.all (inB d.f.f3.length) = true) :
 Calls Try.prog 42 #[.slice B1 l.length d1,.func (.func 43) #[] #[.pointer (some ⟨g2,0,none⟩)]] w fun e w'=>∃ t,e = .returned (.bool t) ∧ Hid (l.all (fun v=>opAt d.f v != 32) = t) ∧ Below w.heap.size w w':=
 by
 refine (all_int 43 _ (fun v=>opAt d.f v != 32) B1 d1 l w hr hc enter43 (fun x hx W hb=>?_)).mono (fun e w' h=>⟨_,h.1,Lib.hid rfl,h.2⟩)
 exact nophi_any g g2 d v3 v4 v5 v6 x W (h.below hb) ((blk_cell (blkB hb h2) 0).trans rfl) (List.all_eq_true.1 hin x hx)
theorem block_phis {f:S38} {b:S46} (h:blockB f b = true):b.f0.all (inB f.f3.length) = true ∧ b.f1.all (inB f.f3.length) = true ∧ b.f3.all (inB f.f4.length) = true ∧ b.f2.f2.all (inB f.f4.length) = true:=by
 unfold blockB at h
 simp only [Bool.and_eq_true] at h
 exact ⟨h.1.1.1.1.1,h.1.1.1.1.2,h.1.1.1.2,h.1.1.2⟩
set_option maxHeartbeats 8000000 in
theorem phis_any (g:Nat) (d:Ck) (v3 v4 v5 v6:Value) (w:World) (h:CkW w g d v3 v4 v5 v6) (hG:Good d) :
 Calls Try.prog 23 #[.pointer (some ⟨g,0,none⟩)] w fun e w'=>e = .returned (.int .i64 (phisE d.f)) ∧ Below w.heap.size w w':=by
 obtain ⟨fs,mn,A,c,p,f,A1,c1,A3,c3,A4,c4⟩:=d
 have hF:FnAt w p f A1 c1 A3 c3 A4 c4:=h.at_
 have hm4:=hF.r4.2.1
 have hsome:0 < f.f4.length:=hG.some_
 have HK:=Lib.hid h
 have HF:=Lib.hid hF
 have HG:=Lib.hid hG
 obtain ⟨ad0,B00,d00,-,-,-,-,-,-,hA0,z0,-⟩:=at_T46 hF.r4 0 (by omega) (by omega)
 obtain rfl:=hA0
 have e00:rd_T46 f.f4 0 = f.f4.getD 0 z46:=by simp [rd_T46]
 rw [e00,show (0:Int).toNat * 6 = 0 from rfl,add_zero] at z0
 have z0:=fun O=>cellO z0 O
 have y2:∀ O,(w.alloc O).cell? ⟨g,2,none⟩ = some (.pointer (some p)):=fun O=>cellO h.y2 O
 have x4:=fun O=>cellO hF.c4 O
 have hl0:(0:Int) < (f.f4.length:Int):=by omega
 have HE:Hid (phisE f = if (f.f4.getD 0 z46).f0.length = 0 ∧ f.f4.all (phisBlk f) = true then 0 else 93):=Lib.hid rfl
 generalize phisE f = R at *
 clear hF h hG e00
 generalize f.f4.getD 0 z46 = b0 at *
 go_enter Try.func23,Try.ntmps23
 go_wp2
 ·go_ret
  refine ⟨ret_i ?_,below_alloc (Below.refl _ _) _⟩
  rw [HE.out,if_neg]
  intro hh
  have h1:0 < b0.f0.length:=‹_›
  omega
 have hz0:b0.f0.length = 0:=by
  have h1:¬ 0 < b0.f0.length:=‹_›
  omega
 have HE2:Hid (R = if f.f4.all (phisBlk f) = true then 0 else 93):=Lib.hid (by
  rw [HE.out]
  by_cases hh:f.f4.all (phisBlk f) = true
  ·rw [if_pos ⟨hz0,hh⟩,if_pos hh]
  ·rw [if_neg (fun k=>hh k.2),if_neg hh])
 have HBK:Hid ((w.alloc (.cells #[.pointer (some ⟨g,0,none⟩)] 56)).heap[w.heap.size]? = some (.cells #[.pointer (some ⟨g,0,none⟩)] 56 (0,0))):=Lib.hid (blk_new w _)
 clear z0 y2 x4 HE
 generalize b0.f0.length = n0 at *
 subst hz0
 go_loopg [4,5,26] (f.f4.length) (fun k _ _ v wr=>∃ i:Nat,i ≤ f.f4.length ∧ v = .int .i64 i ∧ Hid (i + k = f.f4.length) ∧ Hid (f.f4.all (phisBlk f) = (f.f4.drop i).all (phisBlk f)) ∧ Hid (Below w.heap.size w wr) ∧ Hid (wr.heap[w.heap.size]? = some (.cells #[.pointer (some ⟨g,0,none⟩)] 56 (0,0))))
 case atStart=>exact ⟨0,by omega,rfl,Lib.hid (by omega),Lib.hid (by simp),Lib.hid (below_alloc (Below.refl _ _) _),HBK⟩
 case round=>
  clear HBK
  obtain ⟨l,hl,rfl,HL,HR,HBd,HBK⟩:=hrel
  by_cases hlt3:l < f.f4.length
  ·obtain ⟨ad4,B0,d0,B1,d1,B4,d4,B5,d5,hA4,q0,q1,q2,q3,q4,q5,l0,r0,l1,r1,l4,r4,l5,r5⟩:=at_T46 HF.out.r4 (l:Int) (by omega) (by omega)
   injection hA4 with hA4
   subst hA4
   rw [Int.toNat_natCast] at q0 q1 q2 q3 q4 q5
   have q0:=cellB HBd.out q0
   have q1:=cellB HBd.out q1
   have q2:=cellB HBd.out q2
   have q3:=cellB HBd.out q3
   have q4:=cellB HBd.out q4
   have q5:=cellB HBd.out q5
   have R0:=Lib.hid r0
   have R1:=Lib.hid r1
   clear r0 r1 r4 r5
   have hx0:rd_T46 f.f4 (l:Int) = f.f4.getD l z46:=by simp [rd_T46]
   have HBL:=Lib.hid (block_phis (HG.out.blocks _ (mem_getD z46 hlt3)))
   have HST:=Lib.hid (all_stop (p:=phisBlk f) (d:=z46) hlt3 HR.out)
   have HNX:=Lib.hid (all_next (p:=phisBlk f) (d:=z46) hlt3 HR.out)
   rw [← hx0] at HST HNX HBL
   clear hx0
   generalize rd_T46 f.f4 (l:Int) = b at *
   obtain ⟨O,hO⟩:∃ O:Obj,O = .cells #[.slice B0 b.f0.length d0,.slice B1 b.f1.length d1,.int .i64 b.f2.f0,.int .i64 b.f2.f1,.slice B4 b.f2.f2.length d4,.slice B5 b.f3.length d5] 46:=⟨_,rfl⟩
   have HBe:=Lib.hid (below_alloc HBd.out O)
   have HK2:=Lib.hid (blkB (below_alloc (Below.refl _ _) O) HBK.out)
   have HK3:=Lib.hid (blk_new wr O)
   rw [hO] at HBe HK2 HK3
   clear hO
   have HKa:=Lib.hid (HK.out.below HBe.out)
   go_wp2_with (first | (go_at_call 42;with_reducible refine Calls.mono (all_phis g w.heap.size wr.heap.size ⟨fs,mn,A,c,p,f,A1,c1,A3,c3,some ad0,c4⟩ v3 v4 v5 v6 b B0 B1 B4 B5 d0 d1 d4 d5 _ HKa.out HK2.out HK3.out ?_ l0 HBL.out.1) ?_;exact Kd.C_below R0.out HBe.out;rintro e w2 ⟨t1,rfl,HT1,hb2⟩;have HB2:=Lib.hid (below_then HBe.out HBe.out.size hb2);have HKb:=Lib.hid (HKa.out.below hb2);have HK2b:=Lib.hid (blkB hb2 HK2.out);have y1:w2.cell? ⟨wr.heap.size,1,none⟩ = some (.slice B1 b.f1.length d1):=(blk_cell (blkB hb2 HK3.out) 1).trans rfl;clear hb2) | (go_at_call 42;with_reducible refine Calls.mono (all_nophi g w.heap.size ⟨fs,mn,A,c,p,f,A1,c1,A3,c3,some ad0,c4⟩ v3 v4 v5 v6 B1 d1 b.f1 _ HKb.out HK2b.out ?_ l1 HBL.out.2.1) ?_;exact Kd.C_below R1.out HB2.out;rintro e w3 ⟨t2,rfl,HT2,hb3⟩;have HB3:=Lib.hid (below_then HB2.out HB2.out.size hb3);have HK2c:=Lib.hid (blkB hb3 HK2b.out);clear hb3) | (go_at_call 42;refine stop_intro ?_))
   all_goals first
    | (go_ret
       refine ⟨ret_i ?_,by first | exact HB3.out | exact HB2.out⟩
       rw [HE2.out,if_neg (by
        rw [HST.out ?_]
        ·decide
        ·unfold phisBlk
         first | (rw [HT1.out,(Bool.eq_false_iff.2 ‹¬t1 = true›)];rfl) | (rw [HT2.out,(by simpa using ‹(!t2) = true›:t2 = false)];simp))])
    | (go_roundg (gk - 1)
       case measure=>have:=HL.out;omega
       case rel=>exact ⟨l + 1,by omega,by go_num,Lib.hid (by have:=HL.out;omega),Lib.hid (HNX.out (by unfold phisBlk;rw [HT1.out,HT2.out,‹t1 = true›,(by simpa using ‹(!t2) = false›:t2 = true)];rfl)),HB3,HK2c⟩)
  ·go_wp2
   go_ret
   refine ⟨ret_i ?_,HBd.out⟩
   rw [HE2.out,if_pos (by rw [HR.out,List.drop_eq_nil_of_le (by omega)];rfl)]
end Go.Proofs.Ytgbeliajhccndaa
end
section
set_option linter.unusedVariables false
set_option linter.unusedSimpArgs false
namespace Go.Proofs.Ytgbeliajhccndaa
open Go.RowKit Go.Proofs.YtgbeliajhccndaaW.PrintWords Go.Proofs.YtgbeliajhccndaaW.PrintLast Go.Proofs.YtgbeliajhccndaaW.PrintMore PP
def RowI (w:World) (g:Nat) (l:List Int):Prop:=w.heap[g]? = some (.cells (nums .i64 l).toArray 3 (0,0))
section
variable {w W:World} {g:Nat} {l:List Int}
theorem RowI.cell (h:RowI w g l) {i:Nat} (hi:i < l.length):w.cell? ⟨g,i,none⟩ = some (.int .i64 (l.getD i 0)):=by
 rw [blk_cell h i];simp [nums,List.getD_eq_getElem?_getD,hi]
theorem RowI.frozen (h:RowI w g l) (i:Nat):w.frozen? ⟨g,i,none⟩ = false:=blk_frozen h i
theorem RowI.set (h:RowI w g l) (i:Nat) (x:Int):RowI (w.setCell ⟨g,i,none⟩ (.int .i64 x)) g (l.set i x):=by
 have:=blk_set h i (.int .i64 x)
 unfold RowI
 rw [this]
 simp [nums,List.map_set]
theorem RowI.far (h:RowI w g l) {p:Addr} (hp:g ≠ p.block) (u:Value):RowI (w.setCell p u) g l:=blk_far h hp u
theorem RowI.below (h:RowI w g l) (hb:Below w.heap.size w W):RowI W g l:=blkB hb h
theorem RowI.lt (h:RowI w g l):g < w.heap.size:=blk_lt h
theorem RowI.C (h:RowI w g l) (hl:l.length ≤ 9223372036854775807):(Kd.int .i64).C w (some ⟨g,0,none⟩) l.length l:=by
 refine ⟨rfl,hl,fun _=>⟨_,rfl,fun j x hj=>⟨[.int .i64 x],rfl,rfl,fun i u hu=>?_⟩⟩⟩
 have hi:i = 0:=by
  cases i with
  | zero=>rfl
  | succ n=>simp at hu
 subst hi
 simp at hu
 subst hu
 have hjl:=(List.getElem?_eq_some_iff.1 hj).1
 have e:(⟨g,0,none⟩:Addr).add (j * 1 + 0) = ⟨g,j,none⟩:=by rw [add_plain];simp
 show w.cell? ((⟨g,0,none⟩:Addr).add (j * 1 + 0)) = _
 rw [e,h.cell hjl]
 simp [List.getD_eq_getElem?_getD,hj]
end
abbrev Tri:=List Int × List Int × List Int
def put3 (s:Tri) (v b k:Int):Tri:=(s.1.set v.toNat b,s.2.1.set v.toNat k,s.2.2.set v.toNat (wrap64 (s.2.2.getD v.toNat 0 + 1)))
structure St (w0 wi wr:World) (g g2 g3 gw ga gt:Nat) (d:Ck) (v3 v4:Value) (n:Nat) (s:Tri):Prop where
 below:Below w0.heap.size w0 wr
 keep:∀ j,j < wi.heap.size → j ≠ g → wr.heap[j]? = wi.heap[j]?
 size:wi.heap.size ≤ wr.heap.size
 bk:wr.heap[g]? = some (.cells #[.slice d.A d.fs.length d.c,.int .i64 d.mn,.pointer (some d.p),v3,v4,.slice (some ⟨gw,0,none⟩) n n,.slice (some ⟨ga,0,none⟩) n n] 58 (0,0))
 b2:wr.heap[g2]? = some (.cells #[.pointer (some ⟨g,0,none⟩)] 56 (0,0))
 b3:wr.heap[g3]? = some (.cells #[.slice (some ⟨gt,0,none⟩) n n] 34 (0,0))
 rw_:RowI wr gw s.1
 ra:RowI wr ga s.2.1
 rt:RowI wr gt s.2.2
 l1:s.1.length = n
 l2:s.2.1.length = n
 l3:s.2.2.length = n
structure Ap (w0 wi:World) (g g2 g3 gw ga gt:Nat):Prop where
 a1:w0.heap.size ≤ g ∧ w0.heap.size ≤ g2 ∧ w0.heap.size ≤ g3 ∧ w0.heap.size ≤ gw ∧ w0.heap.size ≤ ga ∧ w0.heap.size ≤ gt
 a3:wi.heap.size ≤ gw ∧ wi.heap.size ≤ ga ∧ wi.heap.size ≤ gt
 a2:gw ≠ ga ∧ gw ≠ gt ∧ ga ≠ gt ∧ g ≠ gw ∧ g ≠ ga ∧ g ≠ gt ∧ g2 ≠ gw ∧ g2 ≠ ga ∧ g2 ≠ gt ∧ g3 ≠ gw ∧ g3 ≠ ga ∧ g3 ≠ gt
section
variable {w0 wi wr W:World} {g g2 g3 gw ga gt:Nat} {d:Ck} {v3 v4:Value} {n:Nat} {s:Tri}
theorem St.then_ (h:St w0 wi wr g g2 g3 gw ga gt d v3 v4 n s) (hb:Below wr.heap.size wr W):St w0 wi W g g2 g3 gw ga gt d v3 v4 n s:=
 ⟨below_then h.below h.below.size hb,fun j hj hg=>(hb.block j (Nat.lt_of_lt_of_le hj h.size)).trans (h.keep j hj hg),Nat.le_trans h.size hb.size,blkB hb h.bk,blkB hb h.b2,blkB hb h.b3,h.rw_.below hb,h.ra.below hb,h.rt.below hb,h.l1,h.l2,h.l3⟩
theorem St.put (h:St w0 wi wr g g2 g3 gw ga gt d v3 v4 n s) (ha:Ap w0 wi g g2 g3 gw ga gt) (v b k x:Int) (hx:x = wrap64 (s.2.2.getD v.toNat 0 + 1)) :
 St w0 wi (((wr.setCell ⟨gw,v.toNat,none⟩ (.int .i64 b)).setCell ⟨ga,v.toNat,none⟩ (.int .i64 k)).setCell ⟨gt,v.toNat,none⟩ (.int .i64 x)).drew g g2 g3 gw ga gt d v3 v4 n (put3 s v b k):=by
 obtain ⟨p0,p1,p2,p3,p4,p5⟩:=ha.a1
 obtain ⟨n1,n2,n3,n4,n5,n6,n7,n8,n9,n10,n11,n12⟩:=ha.a2
 obtain ⟨i1,i2,i3⟩:=ha.a3
 subst hx
 refine ⟨?_,?_,?_,?_,?_,?_,?_,?_,?_,?_,?_,?_⟩
 ·exact pw_below_drewN (below_set (below_set (below_set h.below p3) p4) p5) 1
 ·intro j hj hg
  show (((wr.setCell ⟨gw,v.toNat,none⟩ (.int .i64 b)).setCell ⟨ga,v.toNat,none⟩ (.int .i64 k)).setCell ⟨gt,v.toNat,none⟩ _).heap[j]? = _
  rw [Below.heap_setCell _ _ _ _ (by show j ≠ gt;omega),Below.heap_setCell _ _ _ _ (by show j ≠ ga;omega),Below.heap_setCell _ _ _ _ (by show j ≠ gw;omega)]
  exact h.keep j hj hg
 ·have:=h.size;simpa [World.setCell,World.drew] using this
 ·exact blk_far (blk_far (blk_far h.bk n4 _) n5 _) n6 _
 ·exact blk_far (blk_far (blk_far h.b2 n7 _) n8 _) n9 _
 ·exact blk_far (blk_far (blk_far h.b3 n10 _) n11 _) n12 _
 ·exact ((h.rw_.set _ _).far n1 _).far n2 _
 ·exact ((h.ra.far (Ne.symm n1) _).set _ _).far n3 _
 ·exact ((h.rt.far (Ne.symm n2) _).far (Ne.symm n3) _).set _ _
 ·simp [put3,h.l1]
 ·simp [put3,h.l2]
 ·simp [put3,h.l3]
end
set_option maxHeartbeats 4000000 in
theorem put_any (w0 wi:World) (g g2 g3 gw ga gt:Nat) (d:Ck) (v3 v4:Value) (n:Nat) (s:Tri) (v b k:Int) (w:World) (h:St w0 wi w g g2 g3 gw ga gt d v3 v4 n s) (hap:Ap w0 wi g g2 g3 gw ga gt) (hm:n ≤ 9223372036854775807) (hv:inB n v = true) :
 Calls Try.prog 44 #[.int .i64 v,.int .i64 b,.int .i64 k,.pointer (some ⟨g2,0,none⟩),.pointer (some ⟨g3,0,none⟩)] w fun e w'=>e = .returned (.tuple #[]) ∧ Hid (St w0 wi w' g g2 g3 gw ga gt d v3 v4 n (put3 s v b k)) ∧ Hid (∀ (j:Nat) (t:TypeId) (cs:Array Value),w.heap[j]? = some (.cells cs t (0,0)) → j ≠ gw → j ≠ ga → j ≠ gt → w'.heap[j]? = some (.cells cs t (0,0))):=by
 obtain ⟨x0,x1⟩:=inB_iff hv
 have y4:w.cell? ⟨g,5,none⟩ = some (.slice (some ⟨gw,0,none⟩) n n):=(blk_cell h.bk 5).trans rfl
 have y5:w.cell? ⟨g,6,none⟩ = some (.slice (some ⟨ga,0,none⟩) n n):=(blk_cell h.bk 6).trans rfl
 have h2:w.cell? ⟨g2,0,none⟩ = some (.pointer (some ⟨g,0,none⟩)):=(blk_cell h.b2 0).trans rfl
 have h3:w.cell? ⟨g3,0,none⟩ = some (.slice (some ⟨gt,0,none⟩) n n):=(blk_cell h.b3 0).trans rfl
 have cw:=h.rw_.cell (i:=v.toNat) (by have:=h.l1;omega)
 have ca:=h.ra.cell (i:=v.toNat) (by have:=h.l2;omega)
 have ct:=h.rt.cell (i:=v.toNat) (by have:=h.l3;omega)
 have fw:=h.rw_.frozen v.toNat
 have fa:=h.ra.frozen v.toNat
 have ft:=h.rt.frozen v.toNat
 obtain ⟨n1,n2,n3,n4,n5,n6,n7,n8,n9,n10,n11,n12⟩:=hap.a2
 have HE:=Lib.hid (fun x hx=>h.put hap v b k x hx)
 clear h hap hv
 generalize s.2.2.getD v.toNat 0 = tt at *
 generalize s.2.1.getD v.toNat 0 = ta at *
 generalize s.1.getD v.toNat 0 = tw at *
 go_enter Try.func44,Try.ntmps44
 go_wp2
 go_region
 go_wp2
 go_end0
 exact ⟨rfl,Lib.hid (HE.out _ rfl),Lib.hid (fun j t cs hj h1 h2 h3=>blk_far (blk_far (blk_far hj h1 _) h2 _) h3 _)⟩
end Go.Proofs.Ytgbeliajhccndaa
end
