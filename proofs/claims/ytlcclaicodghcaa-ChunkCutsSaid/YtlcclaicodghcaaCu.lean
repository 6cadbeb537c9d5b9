import Derived.Test.YtlcclaicodghcaaCt
namespace Go.Proofs.Ytlcclaicodghcaa
open Go.RowKit
open Go.Proofs.YtlcclaicodghcaaW.PrintLast

/-- The variables of Read: the bytes, the answer, the place, what is wrong, the head. -/
structure RdI (w W : World) (bx : Value) (t e : Int) (hv : Array Value) : Prop where
  fb : W.heap[w.heap.size]? = some (.cells #[bx] 22 (0, 0))
  fr : W.heap[w.heap.size + 1]? = some (.cells #[.int .i64 0, .slice none 0 0, .int .i64 0, .slice none 0 0, .slice none 0 0] 75 (0, 0))
  fa : W.heap[w.heap.size + 2]? = some (.cells #[.int .i64 t] 3 (0, 0))
  fw : W.heap[w.heap.size + 3]? = some (.cells #[.int .i64 e] 26 (0, 0))
  fh : W.heap[w.heap.size + 4]? = some (.cells hv 75 (0, 0))
  bl : Below w.heap.size w W
theorem RdI.ext {w W W' : World} {bx : Value} {t e : Int} {hv : Array Value} (h : RdI w W bx t e hv) (hb : Below W.heap.size W W') : RdI w W' bx t e hv :=
  ⟨blk_ext hb (lt_blk h.fb) h.fb, blk_ext hb (lt_blk h.fr) h.fr, blk_ext hb (lt_blk h.fa) h.fa, blk_ext hb (lt_blk h.fw) h.fw, blk_ext hb (lt_blk h.fh) h.fh, bl_then h.bl hb⟩
/-- Where a row of another place grows. -/
theorem RdI.low {w W W' : World} {bx : Value} {t e : Int} {hv : Array Value} (h : RdI w W bx t e hv) (hb : Below (w.heap.size + 5) W W') : RdI w W' bx t e hv :=
  ⟨blk_ext hb (by omega) h.fb, blk_ext hb (by omega) h.fr, blk_ext hb (by omega) h.fa, blk_ext hb (by omega) h.fw, blk_ext hb (by omega) h.fh, h.bl.trans (hb.mono (Nat.le_add_right _ 5))⟩
theorem RdI.clo {w W W' : World} {bx : Value} {t e t' e' : Int} {hv : Array Value} (h : RdI w W bx t e hv) (k : Clo (w.heap.size + 2) (w.heap.size + 3) W W') (fa : W'.heap[w.heap.size + 2]? = some (.cells #[.int .i64 t'] 3 (0, 0)))
    (fw : W'.heap[w.heap.size + 3]? = some (.cells #[.int .i64 e'] 26 (0, 0))) : RdI w W' bx t' e' hv :=
  ⟨(k.far _ (by omega) (by omega)).trans h.fb, (k.far _ (by omega) (by omega)).trans h.fr, fa, fw, (k.far _ (by omega) (by omega)).trans h.fh, h.bl.trans (k.below _ (by omega) (by omega))⟩
theorem RdI.seth {w W : World} {bx : Value} {t e : Int} {hv : Array Value} (h : RdI w W bx t e hv) (i : Nat) (u : Value) : RdI w (W.setCell ⟨w.heap.size + 4, i, none⟩ u) bx t e (hv.setIfInBounds i u) :=
  ⟨blk_far h.fb (by omega) _, blk_far h.fr (by omega) _, blk_far h.fa (by omega) _, blk_far h.fw (by omega) _, blk_set h.fh i u, bl_set h.bl (p := ⟨w.heap.size + 4, i, none⟩) (Nat.le_add_right _ 4) _⟩
theorem RdI.seta {w W : World} {bx : Value} {t e : Int} {hv : Array Value} (h : RdI w W bx t e hv) (t' : Int) : RdI w (W.setCell ⟨w.heap.size + 2, 0, none⟩ (.int .i64 t')) bx t' e hv :=
  ⟨blk_far h.fb (by omega) _, blk_far h.fr (by omega) _, blk_set h.fa 0 _, blk_far h.fw (by omega) _, blk_far h.fh (by omega) _, bl_set h.bl (p := ⟨w.heap.size + 2, 0, none⟩) (Nat.le_add_right _ 2) _⟩
theorem RdI.setw {w W : World} {bx : Value} {t e : Int} {hv : Array Value} (h : RdI w W bx t e hv) (e' : Int) : RdI w (W.setCell ⟨w.heap.size + 3, 0, none⟩ (.int .i64 e')) bx t e' hv :=
  ⟨blk_far h.fb (by omega) _, blk_far h.fr (by omega) _, blk_far h.fa (by omega) _, blk_set h.fw 0 _, blk_far h.fh (by omega) _, bl_set h.bl (p := ⟨w.heap.size + 3, 0, none⟩) (Nat.le_add_right _ 3) _⟩
theorem RdI.sz {w W : World} {bx : Value} {t e : Int} {hv : Array Value} (h : RdI w W bx t e hv) : w.heap.size + 5 ≤ W.heap.size := lt_blk h.fh
/-- What the walk reads. -/
theorem RdI.facts {w W : World} {bx : Value} {t e : Int} {hv : Array Value} (h : RdI w W bx t e hv) :
    (W.cell? ⟨w.heap.size, 0, none⟩ = some bx ∧ W.cell? ⟨w.heap.size + 2, 0, none⟩ = some (.int .i64 t) ∧ W.cell? ⟨w.heap.size + 3, 0, none⟩ = some (.int .i64 e) ∧ (∀ o, W.cell? ⟨w.heap.size + 4, o, none⟩ = hv[o]?) ∧ (∀ o, W.cell? ⟨w.heap.size + 1, o, none⟩ = (#[.int .i64 0, .slice none 0 0, .int .i64 0, .slice none 0 0, .slice none 0 0] : Array Value)[o]?)) ∧
    (W.frozen? ⟨w.heap.size + 2, 0, none⟩ = false ∧ W.frozen? ⟨w.heap.size + 3, 0, none⟩ = false ∧ (∀ o, W.frozen? ⟨w.heap.size + 4, o, none⟩ = false) ∧ (∀ o, W.frozen? ⟨w.heap.size + 1, o, none⟩ = false)) ∧
    (w.heap.size < W.heap.size ∧ w.heap.size + 1 < W.heap.size ∧ w.heap.size + 2 < W.heap.size ∧ w.heap.size + 3 < W.heap.size ∧ w.heap.size + 4 < W.heap.size) := by
  have := h.sz
  exact ⟨⟨cell_of_one h.fb, cell_of_one h.fa, cell_of_one h.fw, (blk_facts h.fh).1, (blk_facts h.fr).1⟩, ⟨free_of_one h.fa, free_of_one h.fw, (blk_facts h.fh).2.1, (blk_facts h.fr).2.1⟩, by omega, by omega, by omega, by omega, by omega⟩
theorem OwnB.low_clo {Ba Bw : Nat} {W W' : World} {base : Nat} {A : Option Addr} {c : Nat} {bs : List UInt8} (h : OwnB W base A c bs) (k : Clo Ba Bw W W') (ha : Ba < base) (hw : Bw < base) : OwnB W' base A c bs := by
  refine ⟨⟨h.1.1, ?_⟩, h.2⟩
  rcases h.1.2 with h0 | ⟨g', cap, cur, h1, hb, hh, h2⟩
  · exact .inl h0
  · exact .inr ⟨g', cap, cur, h1, hb, (k.far g' (by omega) (by omega)).trans hh, h2⟩
theorem OwnV.low_clo {Ba Bw : Nat} {W W' : World} {base e size : Nat} {A : Option Addr} {n c : Nat} {xs : List Value} (h : OwnV W base e size A n c xs) (k : Clo Ba Bw W W') (ha : Ba < base) (hw : Bw < base) : OwnV W' base e size A n c xs := by
  refine ⟨h.1, ?_⟩
  rcases h.2 with h0 | ⟨g', cap, cur, h1, hb, hh, h2⟩
  · exact .inl h0
  · exact .inr ⟨g', cap, cur, h1, hb, (k.far g' (by omega) (by omega)).trans hh, h2⟩
theorem rd_start (w : World) (bx : Value) :
    ((((w.alloc (.cells #[bx] 22)).alloc (.cells #[.int .i64 0, .slice none 0 0, .int .i64 0, .slice none 0 0, .slice none 0 0] 75)).alloc (.cells #[.int .i64 3] 3)).alloc (.cells #[.int .i64 0] 26)).heap[w.heap.size]? = some (.cells #[bx] 22 (0, 0)) ∧
    ((((w.alloc (.cells #[bx] 22)).alloc (.cells #[.int .i64 0, .slice none 0 0, .int .i64 0, .slice none 0 0, .slice none 0 0] 75)).alloc (.cells #[.int .i64 3] 3)).alloc (.cells #[.int .i64 0] 26)).heap[w.heap.size + 1]? = some (.cells #[.int .i64 0, .slice none 0 0, .int .i64 0, .slice none 0 0, .slice none 0 0] 75 (0, 0)) ∧
    ((((w.alloc (.cells #[bx] 22)).alloc (.cells #[.int .i64 0, .slice none 0 0, .int .i64 0, .slice none 0 0, .slice none 0 0] 75)).alloc (.cells #[.int .i64 3] 3)).alloc (.cells #[.int .i64 0] 26)).heap[w.heap.size + 2]? = some (.cells #[.int .i64 3] 3 (0, 0)) ∧
    ((((w.alloc (.cells #[bx] 22)).alloc (.cells #[.int .i64 0, .slice none 0 0, .int .i64 0, .slice none 0 0, .slice none 0 0] 75)).alloc (.cells #[.int .i64 3] 3)).alloc (.cells #[.int .i64 0] 26)).heap[w.heap.size + 3]? = some (.cells #[.int .i64 0] 26 (0, 0)) ∧
    ((((w.alloc (.cells #[bx] 22)).alloc (.cells #[.int .i64 0, .slice none 0 0, .int .i64 0, .slice none 0 0, .slice none 0 0] 75)).alloc (.cells #[.int .i64 3] 3)).alloc (.cells #[.int .i64 0] 26)).heap.size = w.heap.size + 4 := by
  have n1 := size_al w (.cells #[bx] 22)
  have n2 := size_al (w.alloc (.cells #[bx] 22)) (.cells #[.int .i64 0, .slice none 0 0, .int .i64 0, .slice none 0 0, .slice none 0 0] 75)
  have n3 := size_al ((w.alloc (.cells #[bx] 22)).alloc (.cells #[.int .i64 0, .slice none 0 0, .int .i64 0, .slice none 0 0, .slice none 0 0] 75)) (.cells #[.int .i64 3] 3)
  have n4 := size_al (((w.alloc (.cells #[bx] 22)).alloc (.cells #[.int .i64 0, .slice none 0 0, .int .i64 0, .slice none 0 0, .slice none 0 0] 75)).alloc (.cells #[.int .i64 3] 3)) (.cells #[.int .i64 0] 26)
  have b2 := bl_alloc (Below.refl _ (w.alloc (.cells #[bx] 22))) (.cells #[.int .i64 0, .slice none 0 0, .int .i64 0, .slice none 0 0, .slice none 0 0] 75)
  have b3 := bl_alloc (Below.refl _ ((w.alloc (.cells #[bx] 22)).alloc (.cells #[.int .i64 0, .slice none 0 0, .int .i64 0, .slice none 0 0, .slice none 0 0] 75))) (.cells #[.int .i64 3] 3)
  have b4 := bl_alloc (Below.refl _ (((w.alloc (.cells #[bx] 22)).alloc (.cells #[.int .i64 0, .slice none 0 0, .int .i64 0, .slice none 0 0, .slice none 0 0] 75)).alloc (.cells #[.int .i64 3] 3))) (.cells #[.int .i64 0] 26)
  have f1 := blk_new w #[bx] 22
  have f2 := blk_new (w.alloc (.cells #[bx] 22)) #[.int .i64 0, .slice none 0 0, .int .i64 0, .slice none 0 0, .slice none 0 0] 75
  have f3 := blk_new ((w.alloc (.cells #[bx] 22)).alloc (.cells #[.int .i64 0, .slice none 0 0, .int .i64 0, .slice none 0 0, .slice none 0 0] 75)) #[.int .i64 3] 3
  have f4 := blk_new (((w.alloc (.cells #[bx] 22)).alloc (.cells #[.int .i64 0, .slice none 0 0, .int .i64 0, .slice none 0 0, .slice none 0 0] 75)).alloc (.cells #[.int .i64 3] 3)) #[.int .i64 0] 26
  rw [n1] at f2
  rw [n2, n1] at f3
  rw [n3, n2, n1] at f4
  exact ⟨blk_ext b4 (by omega) (blk_ext b3 (by omega) (blk_ext b2 (by omega) f1)), blk_ext b4 (by omega) (blk_ext b3 (by omega) f2), blk_ext b4 (by omega) f3, f4, by omega⟩
theorem rd_head {w w5 : World} {bx : Value} {t e : Int} (hv : Array Value) (fb : w5.heap[w.heap.size]? = some (.cells #[bx] 22 (0, 0))) (fr : w5.heap[w.heap.size + 1]? = some (.cells #[.int .i64 0, .slice none 0 0, .int .i64 0, .slice none 0 0, .slice none 0 0] 75 (0, 0))) (fa : w5.heap[w.heap.size + 2]? = some (.cells #[.int .i64 t] 3 (0, 0)))
    (fw : w5.heap[w.heap.size + 3]? = some (.cells #[.int .i64 e] 26 (0, 0))) (hs : w5.heap.size = w.heap.size + 4) (hb : Below w.heap.size w w5) : RdI w (w5.alloc (.cells hv 75)) bx t e hv := by
  have b := bl_alloc (Below.refl _ w5) (.cells hv 75)
  have f := blk_new w5 hv 75
  rw [hs] at f
  exact ⟨blk_ext b (by omega) fb, blk_ext b (by omega) fr, blk_ext b (by omega) fa, blk_ext b (by omega) fw, f, bl_alloc hb _⟩
/-- How Read stands behind k sections. -/
def RState (b : List UInt8) (k : Nat) (Tl : List SectD) (t e : Int) : Prop := (e = 0 ∧ restT b k = (0, Tl, t)) ∨ (e = 3 ∧ (restOf b).1 = 3)
theorem rstate_next {b : List UInt8} {k m T' X1 : Nat} {Tl : List SectD} {id : List UInt8} {ep ln E2 t1 t2 e2 : Int} (hT : restT b k = (0, Tl, (T' : Int))) (hk : k < m) (hm : manyN b = m) (h1 : trE b T' 255 = 0) (hid : trL b T' 255 = id) (hx : trX b T' 255 = (X1 : Int))
    (hep : tnN b (X1 : Int) 6 = ep) (hE2 : tnE b (X1 : Int) 6 = E2) (ht1 : max (X1 : Int) (tnX b (X1 : Int) 6) = t1) (hln : tnN b t1 4 = ln) (ht2 : max t1 (tnX b t1 4) = t2) (he2 : (if E2 = 0 then tnE b t1 4 else E2) = e2) :
    RState b (k + 1) (Tl ++ [(id, ep, ln)]) t2 e2 := by
  obtain ⟨X1', x1, -, x3, -⟩ := tr_put h1
  obtain rfl : X1 = X1' := by rw [hx] at x1; omega
  rcases tn_cases (b := b) (T := X1) (M := 6) (by omega) (by omega) x3 with h6 | h6
  · obtain ⟨-, -, h7, h8, -⟩ := tn_put h6
    rw [show ((6 : Nat) : Int) = 6 from rfl] at h6 h8
    rw [h6] at hE2
    subst hE2
    have e1 : t1 = ((X1 + 6 : Nat) : Int) := by rw [← ht1, h8]; omega
    subst e1
    rw [if_pos rfl] at he2
    rcases tn_cases (b := b) (T := X1 + 6) (M := 4) (by omega) (by omega) h7 with h9 | h9
    · obtain ⟨-, -, -, k8, -⟩ := tn_put h9
      rw [show ((4 : Nat) : Int) = 4 from rfl] at h9 k8
      have hs : sectE b T' = 0 := by unfold sectE; rw [if_pos h1, hx, if_pos h6, h8]; exact h9
      refine .inl ⟨he2.symm.trans h9, ?_⟩
      rw [restT_step hT hs]
      have hV : sectV b T' = (id, ep, ln) := by unfold sectV; rw [if_pos hs, hid, hx, h8, hep, hln]
      have hXx : sectX b T' = t2 := by unfold sectX; rw [if_pos hs, hx, h8, ← ht2, k8]; omega
      rw [hV, hXx]
    · rw [show ((4 : Nat) : Int) = 4 from rfl] at h9
      have hs : sectE b T' = 3 := by unfold sectE; rw [if_pos h1, hx, if_pos h6, h8]; exact h9
      refine .inr ⟨he2.symm.trans h9, ?_⟩
      rw [rest_at hm hT hk (by rw [hs]; decide), hs]
  · rw [show ((6 : Nat) : Int) = 6 from rfl] at h6
    rw [h6] at hE2
    subst hE2
    have hs : sectE b T' = 3 := by unfold sectE; rw [if_pos h1, hx, if_neg (by rw [h6]; decide)]; exact h6
    rw [if_neg (by decide)] at he2
    refine .inr ⟨he2.symm, ?_⟩
    rw [rest_at hm hT hk (by rw [hs]; decide), hs]
theorem set5b {w W : World} {A : Option Addr} {c : Nat} {bs : List UInt8} (h : OwnB W (w.heap.size + 5) A c bs) (u0 u1 u2 u3 u4 : Value) : OwnB (((((W.setCell ⟨w.heap.size + 1, 0, none⟩ u0).setCell ⟨w.heap.size + 1, 1, none⟩ u1).setCell ⟨w.heap.size + 1, 2, none⟩ u2).setCell ⟨w.heap.size + 1, 3, none⟩ u3).setCell ⟨w.heap.size + 1, 4, none⟩ u4) (w.heap.size + 5) A c bs :=
  ((((h.set_far (by omega) _).set_far (by omega) _).set_far (by omega) _).set_far (by omega) _).set_far (by omega) _
theorem far_set5 {W : World} {B g o : Nat} {u0 u1 u2 u3 u4 : Value} (_ : Nat) (h : g ≠ B + 1) : (((((W.setCell ⟨B + 1, 0, none⟩ u0).setCell ⟨B + 1, 1, none⟩ u1).setCell ⟨B + 1, 2, none⟩ u2).setCell ⟨B + 1, 3, none⟩ u3).setCell ⟨B + 1, 4, none⟩ u4).cell? ⟨g, o, none⟩ = W.cell? ⟨g, o, none⟩ :=
  World.cell?_of_block ((Below.heap_setCell _ _ _ g h).trans ((Below.heap_setCell _ _ _ g h).trans ((Below.heap_setCell _ _ _ g h).trans ((Below.heap_setCell _ _ _ g h).trans (Below.heap_setCell _ _ _ g h)))))
theorem set5v {w W : World} {A : Option Addr} {n c : Nat} {xs : List Value} (h : OwnV W (w.heap.size + 5) 98 3 A n c xs) (u0 u1 u2 u3 u4 : Value) : OwnV (((((W.setCell ⟨w.heap.size + 1, 0, none⟩ u0).setCell ⟨w.heap.size + 1, 1, none⟩ u1).setCell ⟨w.heap.size + 1, 2, none⟩ u2).setCell ⟨w.heap.size + 1, 3, none⟩ u3).setCell ⟨w.heap.size + 1, 4, none⟩ u4) (w.heap.size + 5) 98 3 A n c xs :=
  OwnV.set_far (OwnV.set_far (OwnV.set_far (OwnV.set_far (OwnV.set_far h (by omega) _) (by omega) _) (by omega) _) (by omega) _) (by omega) _
/-- 'append(out, v)' as one step of a region. -/
theorem step_appendV {P : Program} {ops : Array Oper} {oi : Oper} {Nd : Option Tmp} {a : Act} {K : Act → World → Prop} {Q : Exit → Act → World → Prop} (w0 : World) (cs : Array Value) (hw : Region.wanted oi (yielded ops a.tmps) = true) (hN : oi.dst = Nd) (s x : Operand) (t : TypeId)
    (ho : oi.op = .call { callee := .builtin .append, args := #[s, x], argTypes := #[t, t] })
    (base : Nat) (e : TypeId) (i : TypeInfo) (z : Value) (size bytes : Nat) (ht : P.underlying t = some (.slice e)) (hi : P.info? e = some i) (hz : i.zero = some z)
    (hsize : i.size = size) (hby : i.bytes = bytes) (hzs : z.cells.size = size) (hsz : 0 < size)
    (A : Option Addr) (n c : Nat) (xs : List Value) (hs : a.eval s = .slice A n c) (hown : OwnV w0 base e size A n c xs)
    (c' : Nat) (hx : a.eval x = .slice (some ⟨w0.heap.size, 0, none⟩) 1 c') (hcs : cs.size = size) (h1 : ∀ u ∈ cs.toList, u.oneCell' = true)
    (h63 : n + 1 ≤ maxLen) (hbytes : (n + 1) * bytes ≤ 140737488355328) (hbase : base ≤ w0.heap.size)
    (h : ∀ A2 c2 w', OwnV w' base e size A2 (n + 1) c2 (xs ++ cs.toList) → Below base w0 w' → (∀ g, (Value.slice A n c).ownBlock ≠ some g → g < w0.heap.size → w'.heap[g]? = w0.heap[g]?) → K (a.put Nd (.slice A2 (n + 1) c2)) w') :
    if Region.wanted oi (yielded ops a.tmps) = true then Oper.wp P oi a (w0.alloc (.cells cs e)) K Q else K (a.put Nd undef) (w0.alloc (.cells cs e)) := by
  have hb := bl_alloc (Below.refl w0.heap.size w0) (.cells cs e)
  obtain ⟨v', w', hrun, h2, h3, _⟩ := run_append_own (P := P) (w0.alloc (.cells cs e)) base t oi.type e i z size bytes ht hi hz hsize hby hzs hsz _ n xs (hown.ext hb) ⟨w0.heap.size, 0, none⟩ 1 c' cs.toList (by simp [hcs]) (fun j u hj => by rw [plain_add, World.cell?_alloc_at _ _ _ _ rfl]; simpa using hj) h1 h63 hbytes (Nat.le_trans hbase hb.size)
  obtain ⟨A2, c2, rfl, h4⟩ := OwnV.of h2
  have hb' : Below base w0 (w0.alloc (.cells cs e)) := ⟨hb.os, hb.tape, hb.output, hb.size, fun i hi => hb.block i (Nat.lt_of_lt_of_le hi hbase)⟩
  refine value_ hw hN (by simp [execOp, ho, resolve, invoke, builtin, hs, hx, hrun, Result.andThen]) (h A2 c2 w' h4 (Below.grown hb' h3 (Nat.le_trans hbase hb.size) (OwnV.low hown (Nat.le_refl _))) (fun g hne hg => ?_))
  exact (h3.block g (Nat.lt_of_lt_of_le hg hb.size) (fun he => hne he.symm)).trans (hb.block g hg)
theorem bl_set5r {w W : World} (h : Below w.heap.size w W) (u0 u1 u2 u3 u4 : Value) : Below w.heap.size w (((((W.setCell ⟨w.heap.size + 1, 0, none⟩ u0).setCell ⟨w.heap.size + 1, 1, none⟩ u1).setCell ⟨w.heap.size + 1, 2, none⟩ u2).setCell ⟨w.heap.size + 1, 3, none⟩ u3).setCell ⟨w.heap.size + 1, 4, none⟩ u4) :=
  bl_set (bl_set (bl_set (bl_set (bl_set h (p := ⟨w.heap.size + 1, 0, none⟩) (Nat.le_succ _) u0) (p := ⟨w.heap.size + 1, 1, none⟩) (Nat.le_succ _) u1) (p := ⟨w.heap.size + 1, 2, none⟩) (Nat.le_succ _) u2) (p := ⟨w.heap.size + 1, 3, none⟩) (Nat.le_succ _) u3) (p := ⟨w.heap.size + 1, 4, none⟩) (Nat.le_succ _) u4

set_option maxRecDepth 20000 in
set_option maxHeartbeats 1000000 in
theorem read_short (A : Option Addr) (c : Nat) (b : List UInt8) (w : World) (h : b.length < 38) : Calls Try.prog 50 #[.slice A b.length c] w (ReadPost b w) := by
  have hE := Lib.hid (readE_short h)
  have G := Lib.hid (bl_alloc (bl_alloc (Below.refl w.heap.size w) (.cells #[.slice A b.length c] 22)) (.cells #[.int .i64 0, .slice none 0 0, .int .i64 0, .slice none 0 0, .slice none 0 0] 75))
  go_enter Try.func50, Try.ntmps50
  go_wp2_with fail
  exact bodyPost_ret (v := .tuple #[.agg #[.int .i64 0, .slice none 0 0, .int .i64 0, .slice none 0 0, .slice none 0 0], .int .i64 0, .int .i64 3]) (by simp [results, Try.results50, go_sem]) rfl (ReadPost.err hE.out (by decide) G.out)
set_option maxRecDepth 20000 in
set_option maxHeartbeats 1000000 in
theorem read_mark (A : Option Addr) (c : Nat) (b : List UInt8) (w : World) (hok : OkB w A c b) (h : ¬ b.length < 38) (h2 : ¬ b.take 3 = [80, 89, 88]) : Calls Try.prog 50 #[.slice A b.length c] w (ReadPost b w) := by
  have hE := Lib.hid (readE_mark h h2)
  have G := Lib.hid (bl_alloc (bl_alloc (Below.refl w.heap.size w) (.cells #[.slice A b.length c] 22)) (.cells #[.int .i64 0, .slice none 0 0, .int .i64 0, .slice none 0 0, .slice none 0 0] 75))
  have hc1 := hok.2.1
  have hc2 := hok.2.2.1
  obtain ⟨bk, off, rfl, hcells⟩ := hok.some_ (k := 0) (by omega)
  have ht := (hok.ext G.out).take 3
  obtain ⟨m3, hm3⟩ : ∃ m, b.take 3 = m := ⟨_, rfl⟩
  have hl3 : m3.length = 3 := by rw [← hm3, List.length_take]; omega
  rw [hm3] at ht h2
  have hrun := run_str (P := Try.prog) (c := c) Try.underlying22 Try.underlying5 Try.underlying9 ht.1
  rw [hl3] at hrun
  have hne : ((strOf m3).toList == [80, 89, 88]) = false := by rw [strOf_lit]; simpa using h2
  clear hm3 hl3 ht h2 hcells hok
  go_enter Try.func50, Try.ntmps50
  go_wp2_with fail
  exact bodyPost_ret (v := .tuple #[.agg #[.int .i64 0, .slice none 0 0, .int .i64 0, .slice none 0 0, .slice none 0 0], .int .i64 0, .int .i64 2]) (by simp [results, Try.results50, go_sem]) rfl (ReadPost.err hE.out (by decide) G.out)
set_option maxRecDepth 20000 in
set_option maxHeartbeats 2000000 in
theorem read_ver (A : Option Addr) (c : Nat) (b : List UInt8) (w : World) (hok : OkB w A c b) (h : ¬ b.length < 38) (h2 : b.take 3 = [80, 89, 88]) (hv : ¬ (1 ≤ verN b ∧ verN b ≤ 4)) : Calls Try.prog 50 #[.slice A b.length c] w (ReadPost b w) := by
  have hE := Lib.hid (readE_ver h h2 hv)
  have G := Lib.hid (bl_alloc (bl_alloc (Below.refl w.heap.size w) (.cells #[.slice A b.length c] 22)) (.cells #[.int .i64 0, .slice none 0 0, .int .i64 0, .slice none 0 0, .slice none 0 0] 75))
  have hc1 := hok.2.1
  have hc2 := hok.2.2.1
  obtain ⟨bk, off, rfl, hcells⟩ := hok.some_ (k := 0) (by omega)
  have ht := (hok.ext G.out).take 3
  obtain ⟨m3, hm3⟩ : ∃ m, b.take 3 = m := ⟨_, rfl⟩
  have hl3 : m3.length = 3 := by rw [← hm3, List.length_take]; omega
  rw [hm3] at ht h2
  have hrun := run_str (P := Try.prog) (c := c) Try.underlying22 Try.underlying5 Try.underlying9 ht.1
  rw [hl3] at hrun
  have hne : ((strOf m3).toList == [80, 89, 88]) = true := by rw [strOf_lit]; simpa using h2
  have V0 := Lib.hid (tnE_ok (b := b) (T := 3) (M := 1) (by omega) (by omega) (by omega))
  obtain ⟨vv, hvv⟩ : ∃ z, verN b = z := ⟨_, rfl⟩
  rw [hvv] at hv
  have V1 := Lib.hid (show tnN b 3 1 = vv from hvv)
  have V2 := Lib.hid (show tnX b 3 1 = 4 by unfold tnX; rw [if_pos (show tnE b 3 1 = 0 from V0.out)]; rfl)
  have g4 := bl_alloc (bl_alloc G.out (.cells #[.int .i64 3] 3)) (.cells #[.int .i64 0] 26)
  have hok4 := Lib.hid (hok.ext g4)
  have hmf : ∀ (fn : Fn) (first cap : Array Value) (w : World), (Instr.makeFunc fn first cap).run Try.prog w = .ok (.func fn first cap) w := fun _ _ _ _ => rfl
  clear ht h2 hcells hok hvv hm3 hl3
  obtain ⟨s1, s2, s3, s4, s5⟩ := rd_start w (.slice (some ⟨bk, off, none⟩) b.length c)
  replace s1 := Lib.hid s1; replace s2 := Lib.hid s2; replace s3 := Lib.hid s3; replace s4 := Lib.hid s4; replace s5 := Lib.hid s5; replace g4 := Lib.hid g4
  go_enter Try.func50, Try.ntmps50
  go_wp2_with fail
  simp only [show w.heap.size + 1 + 1 = w.heap.size + 2 from rfl, show w.heap.size + 2 + 1 = w.heap.size + 3 from rfl]
  refine (clo_any w.heap.size (w.heap.size + 2) (w.heap.size + 3) (some ⟨bk, off, none⟩) c b 3 0 1 vv 4 0 4 0 _ s1.out s3.out s4.out (by omega) hok4.out V1.out V2.out V0.out rfl rfl).mono ?_; rintro e w5 ⟨rfl, fa5, fw5, k5⟩
  have fr5 := (k5.far (w.heap.size + 1) (by omega) (by omega)).trans s2.out
  have hs5 : w5.heap.size = w.heap.size + 4 := k5.size.trans s5.out
  have G5 := Lib.hid (g4.out.trans (k5.below w.heap.size (by omega) (by omega)))
  obtain ⟨hcr, hfr, -⟩ := blk_facts fr5
  have hzr : w.heap.size + 1 < w.heap.size + 4 := by omega
  replace fa5 := Lib.hid fa5; replace fw5 := Lib.hid fw5; replace fr5 := Lib.hid fr5
  clear k5
  have hd : vv < 1 ∨ (¬ vv < 1 ∧ 4 < vv) := by omega
  clear hv
  rcases hd with hd | ⟨hd, hd'⟩
  · go_wp2_with fail
    exact bodyPost_ret (v := .tuple #[.agg #[.int .i64 0, .slice none 0 0, .int .i64 0, .slice none 0 0, .slice none 0 0], .int .i64 0, .int .i64 6]) (by simp [results, Try.results50, go_sem, hcr, hzr, hs5]) rfl (ReadPost.err hE.out (by decide) (bl_alloc (bl_set5r G5.out _ _ _ _ _) _))
  · go_wp2_with fail
    exact bodyPost_ret (v := .tuple #[.agg #[.int .i64 0, .slice none 0 0, .int .i64 0, .slice none 0 0, .slice none 0 0], .int .i64 0, .int .i64 6]) (by simp [results, Try.results50, go_sem, hcr, hzr, hs5]) rfl (ReadPost.err hE.out (by decide) (bl_alloc (bl_set5r G5.out _ _ _ _ _) _))

set_option maxRecDepth 20000 in
set_option maxHeartbeats 8000000 in
theorem read_main (A : Option Addr) (c : Nat) (b : List UInt8) (w : World) (hok : OkB w A c b) (hl : b.length ≤ 1000000) (h : ¬ b.length < 38) (h2 : b.take 3 = [80, 89, 88]) (hv : 1 ≤ verN b ∧ verN b ≤ 4) : Calls Try.prog 50 #[.slice A b.length c] w (ReadPost b w) := by
  have G := Lib.hid (bl_alloc (bl_alloc (Below.refl w.heap.size w) (.cells #[.slice A b.length c] 22)) (.cells #[.int .i64 0, .slice none 0 0, .int .i64 0, .slice none 0 0, .slice none 0 0] 75))
  have h38 : 38 ≤ b.length := by omega
  have hc1 := hok.2.1
  have hc2 := hok.2.2.1
  have Hok := Lib.hid hok
  obtain ⟨bk, off, rfl, hcells⟩ := hok.some_ (k := 0) (by omega)
  have ht := (hok.ext G.out).take 3
  obtain ⟨m3, hm3⟩ : ∃ m, b.take 3 = m := ⟨_, rfl⟩
  have hl3 : m3.length = 3 := by rw [← hm3, List.length_take]; omega
  have h2' := h2
  rw [hm3] at ht h2'
  have hrun := run_str (P := Try.prog) (c := c) Try.underlying22 Try.underlying5 Try.underlying9 ht.1
  rw [hl3] at hrun
  have hne : ((strOf m3).toList == [80, 89, 88]) = true := by rw [strOf_lit]; simpa using h2'
  have V0 := Lib.hid (tnE_ok (b := b) (T := 3) (M := 1) (by omega) (by omega) (by omega))
  obtain ⟨vv, hvv⟩ : ∃ z, verN b = z := ⟨_, rfl⟩
  have K0 := Lib.hid (And.intro h (And.intro h2 hv))
  rw [hvv] at hv
  have hv1 := hv.1
  have hv4 := hv.2
  have V1 := Lib.hid (show tnN b 3 1 = vv from hvv)
  have V2 := Lib.hid (show tnX b 3 1 = 4 by unfold tnX; rw [if_pos (show tnE b 3 1 = 0 from V0.out)]; rfl)
  obtain ⟨-, -, -, r3, r, r1, r2, -⟩ := tn_put (b := b) (T := 20) (M := 4) (tnE_ok (by omega) (by omega) (by omega))
  obtain ⟨-, -, -, m3', m, m1, m2, -⟩ := tn_put (b := b) (T := 36) (M := 2) (tnE_ok (by omega) (by omega) (by omega))
  have p2 : (256 : Nat) ^ 2 = 65536 := rfl
  rw [p2] at m2
  have R1 := Lib.hid r1; have M1 := Lib.hid m1; have R3 := Lib.hid r3; have M3 := Lib.hid m3'
  have R2 := Lib.hid (tnE_ok (b := b) (T := 20) (M := 4) (by omega) (by omega) (by omega))
  have M2 := Lib.hid (tnE_ok (b := b) (T := 36) (M := 2) (by omega) (by omega) (by omega))
  have hS : OkB w (some ⟨bk, off + 4, none⟩) 16 (saltB b) := OkB.part hcells hok.2.2.1 (X := 4) (N := 16) (by omega) _ (fun _ => rfl) _ (by omega)
  have hN : OkB w (some ⟨bk, off + 24, none⟩) 12 (nonB b) := OkB.part hcells hok.2.2.1 (X := 24) (N := 12) (by omega) _ (fun _ => rfl) _ (by omega)
  have HS16 := Lib.hid (show (saltB b).length = 16 by unfold saltB; simp; omega)
  have HN12 := Lib.hid (show (nonB b).length = 12 by unfold nonB; simp; omega)
  have HS := Lib.hid hS; have HN := Lib.hid hN
  have g4 := bl_alloc (bl_alloc G.out (.cells #[.int .i64 3] 3)) (.cells #[.int .i64 0] 26)
  have hok4 := Lib.hid (hok.ext g4)
  have hmf : ∀ (fn : Fn) (first cap : Array Value) (w : World), (Instr.makeFunc fn first cap).run Try.prog w = .ok (.func fn first cap) w := fun _ _ _ _ => rfl
  have q3 : ¬ c = 4 := by omega
  have q4 : ¬ c = 24 := by omega
  clear ht h2 h2' hcells hok hvv hm3 hl3 r1 r3 m1 m3' p2 hS hN hv h
  obtain ⟨s1, s2, s3, s4, s5⟩ := rd_start w (.slice (some ⟨bk, off, none⟩) b.length c)
  replace s1 := Lib.hid s1; replace s2 := Lib.hid s2; replace s3 := Lib.hid s3; replace s4 := Lib.hid s4; replace s5 := Lib.hid s5; replace g4 := Lib.hid g4
  go_enter Try.func50, Try.ntmps50
  go_wp2_with fail
  simp only [show w.heap.size + 1 + 1 = w.heap.size + 2 from rfl, show w.heap.size + 2 + 1 = w.heap.size + 3 from rfl]
  refine (clo_any w.heap.size (w.heap.size + 2) (w.heap.size + 3) (some ⟨bk, off, none⟩) c b 3 0 1 vv 4 0 4 0 _ s1.out s3.out s4.out (by omega) hok4.out V1.out V2.out V0.out rfl rfl).mono ?_; rintro e w5 ⟨rfl, fa5, fw5, k5⟩
  have fr5 := (k5.far (w.heap.size + 1) (by omega) (by omega)).trans s2.out
  have fb5 := (k5.far w.heap.size (by omega) (by omega)).trans s1.out
  have hs5 : w5.heap.size = w.heap.size + 4 := k5.size.trans s5.out
  have G5 := Lib.hid (g4.out.trans (k5.below w.heap.size (by omega) (by omega)))
  have X5 := Lib.hid (rd_head #[.int .i64 vv, .slice none 0 0, .int .i64 0, .slice none 0 0, .slice none 0 0] fb5 fr5 fa5 fw5 hs5 G5.out)
  have y1 := cell_of_one fb5
  have y2 := cell_of_one fa5
  replace fb5 := Lib.hid fb5; replace fa5 := Lib.hid fa5; replace fw5 := Lib.hid fw5; replace fr5 := Lib.hid fr5
  clear k5 hok4 g4 s1 s2 s3 s4 s5 hrun
  go_wp2_with fail
  refine (c_clone (some ⟨bk, off + 4, none⟩) 16 (saltB b) 16 _ (HS.out.ext X5.out.bl) HS16.out).mono ?_; rintro e w6 ⟨⟨AS, cS, rfl, o6⟩, hb6⟩
  have X6 := Lib.hid (X5.out.ext hb6)
  have oS6 := Lib.hid (o6.base_le X5.out.sz)
  obtain ⟨⟨y1, y2, y3, y4, y5⟩, ⟨z2, z3, z4, z5⟩, l0, l1, l2, l3, l4⟩ := X6.out.facts
  clear hb6 o6 hs5 fb5 fa5 fw5 fr5 G5 X5
  have X7 : Hid (RdI w _ _ 20 0 #[.int .i64 vv, .slice AS (saltB b).length cS, .int .i64 0, .slice none 0 0, .slice none 0 0]) := (X6.out.seth 1 (.slice AS (saltB b).length cS)).seta 20
  have oS7 := Lib.hid ((oS6.out.set_far (g := w.heap.size + 4) (i := 1) (by omega) (.slice AS (saltB b).length cS)).set_far (g := w.heap.size + 2) (i := 0) (by omega) (.int .i64 20))
  go_wp2_with fail
  refine (clo_any w.heap.size (w.heap.size + 2) (w.heap.size + 3) (some ⟨bk, off, none⟩) c b 20 0 4 (r : Int) 24 0 24 0 _ X7.out.fb X7.out.fa X7.out.fw (by omega) (Hok.out.ext X7.out.bl) R1.out R3.out R2.out rfl rfl).mono ?_; rintro e w8 ⟨rfl, fa8, fw8, k8⟩
  have X8 := Lib.hid (X7.out.clo k8 fa8 fw8)
  have oS8 := Lib.hid (oS7.out.low_clo k8 (by omega) (by omega))
  clear y1 y2 y3 y4 y5 z2 z3 z4 z5 l0 l1 l2 l3 l4 fa8 fw8 k8 X6 oS6 X7 oS7
  obtain ⟨⟨y1, y2, y3, y4, y5⟩, ⟨z2, z3, z4, z5⟩, l0, l1, l2, l3, l4⟩ := X8.out.facts
  have X9 : Hid (RdI w _ _ 24 0 #[.int .i64 vv, .slice AS (saltB b).length cS, .int .i64 r, .slice none 0 0, .slice none 0 0]) := X8.out.seth 2 (.int .i64 r)
  have oS9 := Lib.hid (oS8.out.set_far (g := w.heap.size + 4) (i := 2) (by omega) (.int .i64 r))
  go_wp2_with fail
  refine (c_clone (some ⟨bk, off + 24, none⟩) 12 (nonB b) 12 _ (HN.out.ext X9.out.bl) HN12.out).mono ?_; rintro e w10 ⟨⟨AN, cN, rfl, o10⟩, hb10⟩
  have X10 := Lib.hid (X9.out.ext hb10)
  have oS10 := Lib.hid (oS9.out.ext hb10)
  have oN10 := Lib.hid (o10.base_le X9.out.sz)
  clear y1 y2 y3 y4 y5 z2 z3 z4 z5 l0 l1 l2 l3 l4 X8 oS8 X9 oS9 hb10 o10
  obtain ⟨⟨y1, y2, y3, y4, y5⟩, ⟨z2, z3, z4, z5⟩, l0, l1, l2, l3, l4⟩ := X10.out.facts
  have X11 : Hid (RdI w _ _ 36 0 #[.int .i64 vv, .slice AS (saltB b).length cS, .int .i64 r, .slice AN (nonB b).length cN, .slice none 0 0]) := (X10.out.seth 3 (.slice AN (nonB b).length cN)).seta 36
  have oS11 := Lib.hid ((oS10.out.set_far (g := w.heap.size + 4) (i := 3) (by omega) (.slice AN (nonB b).length cN)).set_far (g := w.heap.size + 2) (i := 0) (by omega) (.int .i64 36))
  have oN11 := Lib.hid ((oN10.out.set_far (g := w.heap.size + 4) (i := 3) (by omega) (.slice AN (nonB b).length cN)).set_far (g := w.heap.size + 2) (i := 0) (by omega) (.int .i64 36))
  go_wp2_with fail
  refine (clo_any w.heap.size (w.heap.size + 2) (w.heap.size + 3) (some ⟨bk, off, none⟩) c b 36 0 2 (m : Int) 38 0 38 0 _ X11.out.fb X11.out.fa X11.out.fw (by omega) (Hok.out.ext X11.out.bl) M1.out M3.out M2.out rfl rfl).mono ?_; rintro e w12 ⟨rfl, fa12, fw12, k12⟩
  have X12 := Lib.hid (X11.out.clo k12 fa12 fw12)
  have oS12 := Lib.hid (oS11.out.low_clo k12 (by omega) (by omega))
  have oN12 := Lib.hid (oN11.out.low_clo k12 (by omega) (by omega))
  clear y1 y2 y3 y4 y5 z2 z3 z4 z5 l0 l1 l2 l3 l4 fa12 fw12 k12 X10 oS10 oN10 X11 oS11 oN11
  obtain ⟨i0, hi, hz0, hz1, hz2⟩ := info_parts info98
  go_wp2_with fail
  go_loopw [9] (fun nv wr => ∃ k n : Nat, k + n = m ∧ nv = .int .i64 n ∧ ∃ (t e : Int) (Tl : List SectD) (AO : Option Addr) (CO : Nat) (xs : List Value), Hid (RdI w wr (.slice (some ⟨bk, off, none⟩) b.length c) t e #[.int .i64 vv, .slice AS (saltB b).length cS, .int .i64 r, .slice AN (nonB b).length cN, .slice AO Tl.length CO]) ∧ Hid (OwnV wr (w.heap.size + 5) 98 3 AO Tl.length CO xs) ∧ Hid (SecAt wr (w.heap.size + 5) Tl xs) ∧ Hid (OwnB wr (w.heap.size + 5) AS cS (saltB b)) ∧ Hid (OwnB wr (w.heap.size + 5) AN cN (nonB b)) ∧ Hid (Tl.length ≤ k) ∧ Hid (RState b k Tl t e)) (fun nv _ => (intOf nv).toNat)
  case atStart => exact ⟨0, m, Nat.zero_add _, rfl, 38, 0, [], none, 0, [], X12, OwnV.nil _ _ _ _, SecAt.nil _ _, oS12, oN12, Nat.le_refl _, .inl ⟨rfl, rfl⟩⟩
  case round =>
    obtain ⟨k, n, hkn, rfl, t, e, Tl, AO, CO, xs, X, Ho, Hs, oS, oN, hTl, hst⟩ := hrel
    clear X12 oS12 oN12
    obtain ⟨⟨y1, y2, y3, y4, y5⟩, ⟨z2, z3, z4, z5⟩, l0, l1, l2, l3, l4⟩ := X.out.facts
    rcases hst.out with ⟨rfl, hT⟩ | ⟨rfl, hT⟩
    · by_cases hp : 0 < n
      · obtain ⟨-, -, T', hT', hT38, hTb, -⟩ := restT_good h38 k (by rw [hT])
        have hT1 : t = (T' : Int) := by rw [hT] at hT'; exact hT'
        subst hT1
        have hk : k < m := by omega
        by_cases h1 : trE b T' 255 = 0
        · obtain ⟨X1, x1, -, x3, -⟩ := tr_put h1
          obtain ⟨id, hid⟩ : ∃ z, trL b T' 255 = z := ⟨_, rfl⟩
          obtain ⟨ep, hep⟩ : ∃ z, tnN b (X1 : Int) 6 = z := ⟨_, rfl⟩
          obtain ⟨E2, hE2⟩ : ∃ z, tnE b (X1 : Int) 6 = z := ⟨_, rfl⟩
          obtain ⟨t1, ht1⟩ : ∃ z, max (X1 : Int) (tnX b (X1 : Int) 6) = z := ⟨_, rfl⟩
          obtain ⟨ln, hln⟩ : ∃ z, tnN b t1 4 = z := ⟨_, rfl⟩
          obtain ⟨t2, ht2⟩ : ∃ z, max t1 (tnX b t1 4) = z := ⟨_, rfl⟩
          obtain ⟨e2, he2⟩ : ∃ z, (if E2 = 0 then tnE b t1 4 else E2) = z := ⟨_, rfl⟩
          have hnext := Lib.hid (rstate_next hT hk M1.out h1 hid x1 hep hE2 ht1 hln ht2 he2)
          replace h1 := Lib.hid h1; replace x1 := Lib.hid x1; replace hid := Lib.hid hid; replace hep := Lib.hid hep; replace hE2 := Lib.hid hE2; replace ht1 := Lib.hid ht1; replace hln := Lib.hid hln; replace ht2 := Lib.hid ht2; replace he2 := Lib.hid he2
          have hTl9 : Tl.length ≤ 65536 := by have := hTl.out; omega
          clear hT hT' hst
          go_wp2_with fail
          refine (c_takeRow (some ⟨bk, off, none⟩) c b (T' : Int) 255 (X1 : Int) 0 id _ (Hok.out.ext X.out.bl) hid.out x1.out h1.out).mono ?_; rintro x w2 ⟨⟨A1, c1, rfl, o1⟩, hb2⟩
          have o2 := Lib.hid (((o1.base_le X.out.sz).set_far (g := w.heap.size + 3) (i := 0) (by omega) (.int .i64 0)).set_far (g := w.heap.size + 2) (i := 0) (by omega) (.int .i64 X1))
          have X2 := Lib.hid (((X.out.ext hb2).setw 0).seta X1)
          have Ho2 := Lib.hid (OwnV.set_far (i := 0) (OwnV.set_far (i := 0) (OwnV.ext Ho.out hb2) (show w.heap.size + 3 < w.heap.size + 5 by omega) (.int .i64 0)) (show w.heap.size + 2 < w.heap.size + 5 by omega) (.int .i64 X1))
          have Hs2 := Lib.hid (Hs.out.map fun _ _ _ h => ((h.ext hb2).set_far (g := w.heap.size + 3) (i := 0) (by omega) (.int .i64 0)).set_far (g := w.heap.size + 2) (i := 0) (by omega) (.int .i64 X1))
          have oS2 := Lib.hid (((oS.out.ext hb2).set_far (g := w.heap.size + 3) (i := 0) (by omega) (.int .i64 0)).set_far (g := w.heap.size + 2) (i := 0) (by omega) (.int .i64 X1))
          have oN2 := Lib.hid (((oN.out.ext hb2).set_far (g := w.heap.size + 3) (i := 0) (by omega) (.int .i64 0)).set_far (g := w.heap.size + 2) (i := 0) (by omega) (.int .i64 X1))
          have Xb := X.out.ext hb2
          clear y1 y2 y3 y4 y5 z2 z3 z4 z5 l0 l1 l2 l3 l4 hb2 o1 X Ho Hs oS oN
          obtain ⟨⟨y1, y2, y3, y4, y5⟩, ⟨z2, z3, z4, z5⟩, l0, l1, l2, l3, l4⟩ := Xb.facts
          clear Xb
          go_wp2_with fail
          have RX := X2.out.ext (bl_drew (Below.refl _ _))
          have Ho3 := OwnV.ext Ho2.out (bl_drew (Below.refl _ _))
          have Hs3 := Hs2.out.map fun _ _ _ h => h.ext (bl_drew (Below.refl _ _))
          have oS3 := oS2.out.ext (bl_drew (Below.refl _ _))
          have oN3 := oN2.out.ext (bl_drew (Below.refl _ _))
          have o3 := o2.out.ext (bl_drew (Below.refl _ _))
          refine start_ (n := 12) (S := (fun W' => W'.cell? ⟨w.heap.size + 4, 4, none⟩ = some (.slice AO Tl.length CO))) (ds := [11]) #[false, false, false, false, false, false, false, false, false, false, false, false] (by kernel_rfl) rfl rfl ((cell_blk RX.fh 4)) (fun hHeld => ?_)
          generalize ((w2.setCell ⟨w.heap.size + 3, 0, none⟩ (.int .i64 0)).setCell ⟨w.heap.size + 2, 0, none⟩ (.int .i64 X1)).drew = Y0 at RX Ho3 Hs3 oS3 oN3 o3 hHeld ⊢
          refine take_ (i := 0) (N := some 83) (v := ?_) (a' := ?_) #[true, false, false, false, false, false, false, false, false, false, false, false] rfl rfl (by kernel_rfl) (fun _ _ _ h => h) (Or.inl ⟨by rfl, ?_⟩) hHeld ?_ ?_
          rotate_left
          · intro w' s0
            go_simp
            try with_reducible rfl
          rotate_left
          · simp only [Act.put, List.setIfInBounds_toArray, List.set_cons_zero, List.set_cons_succ]
            rfl
          refine take_ (i := 1) (N := some 84) (v := ?_) (a' := ?_) #[true, true, false, false, false, false, false, false, false, false, false, false] rfl rfl (by kernel_rfl) (fun _ _ _ h => h) (Or.inl ⟨by rfl, ?_⟩) hHeld ?_ ?_
          rotate_left
          · intro w' s0
            go_simp
            try with_reducible rfl
          rotate_left
          · simp only [Act.put, List.setIfInBounds_toArray, List.set_cons_zero, List.set_cons_succ]
            rfl
          refine take_ (i := 2) (N := some 85) (v := ?_) (a' := ?_) #[true, true, true, false, false, false, false, false, false, false, false, false] rfl rfl (by kernel_rfl) (fun _ _ _ h => h) (Or.inl ⟨by rfl, ?_⟩) hHeld ?_ ?_
          rotate_left
          · intro w' s0
            go_simp
            try with_reducible rfl
          rotate_left
          · simp only [Act.put, List.setIfInBounds_toArray, List.set_cons_zero, List.set_cons_succ]
            rfl
          refine take_ (i := 3) (N := some 86) (v := ?_) (a' := ?_) #[true, true, true, true, false, false, false, false, false, false, false, false] rfl rfl (by kernel_rfl) (fun _ _ _ h => h) (Or.inl ⟨by rfl, ?_⟩) hHeld ?_ ?_
          rotate_left
          · intro w' s0
            go_simp
            try with_reducible rfl
          rotate_left
          · simp only [Act.put, List.setIfInBounds_toArray, List.set_cons_zero, List.set_cons_succ]
            rfl
          refine take_ (i := 5) (N := some 88) (v := ?_) (a' := ?_) #[true, true, true, true, false, true, false, false, false, false, false, false] rfl rfl (by kernel_rfl) (fun _ _ _ h => h) (Or.inl ⟨by rfl, ?_⟩) hHeld ?_ ?_
          rotate_left
          · intro w' s0
            go_simp
            try with_reducible rfl
          rotate_left
          · simp only [Act.put, List.setIfInBounds_toArray, List.set_cons_zero, List.set_cons_succ]
            rfl
          refine one_ (i := 4) (N := some 87) #[true, true, true, true, true, true, false, false, false, false, false, false] rfl rfl (by kernel_rfl) (by decide) (fun K hK => ?_)
          refine call_ 78 #[.int .i64 6, .pointer (some ⟨w.heap.size, 0, none⟩), .pointer (some ⟨w.heap.size + 2, 0, none⟩), .pointer (some ⟨w.heap.size + 3, 0, none⟩)] (by rfl) rfl (by go_simp) ?_
          with_reducible refine (clo_any w.heap.size (w.heap.size + 2) (w.heap.size + 3) (some ⟨bk, off, none⟩) c b (X1 : Int) 0 6 ep _ E2 t1 E2 _ RX.fb RX.fa RX.fw (by omega) (Hok.out.ext RX.bl) hep.out rfl hE2.out ht1.out (if_pos rfl)).mono ?_
          rintro x Y ⟨rfl, fa, fw, kk⟩
          refine ⟨_, rfl, ?_⟩
          replace RX := RX.clo kk fa fw
          replace Ho3 := OwnV.low_clo Ho3 kk (by omega) (by omega)
          replace Hs3 := Hs3.map fun _ _ _ h => h.low_clo kk (by omega) (by omega)
          replace oS3 := oS3.low_clo kk (by omega) (by omega)
          replace oN3 := oN3.low_clo kk (by omega) (by omega)
          replace o3 := o3.low_clo kk (by omega) (by omega)
          clear fa fw kk
          have S' := (cell_blk RX.fh 4)
          clear hHeld
          refine hK.out _ _ S' (fun hHeld => ?_)
          clear hK K S'
          refine norm_ (a' := ?_) ?_ ?_
          rotate_left
          · show Act.put _ (some 87) _ = _
            simp only [Act.put, List.setIfInBounds_toArray, List.set_cons_zero, List.set_cons_succ]
            rfl
          refine one_ (i := 6) (N := some 89) #[true, true, true, true, true, true, true, false, false, false, false, false] rfl rfl (by kernel_rfl) (by decide) (fun K hK => ?_)
          refine call_ 78 #[.int .i64 4, .pointer (some ⟨w.heap.size, 0, none⟩), .pointer (some ⟨w.heap.size + 2, 0, none⟩), .pointer (some ⟨w.heap.size + 3, 0, none⟩)] (by rfl) rfl (by go_simp) ?_
          with_reducible refine (clo_any w.heap.size (w.heap.size + 2) (w.heap.size + 3) (some ⟨bk, off, none⟩) c b t1 E2 4 ln _ _ t2 e2 _ RX.fb RX.fa RX.fw (by omega) (Hok.out.ext RX.bl) hln.out rfl rfl ht2.out he2.out).mono ?_
          rintro x Y2 ⟨rfl, fa, fw, kk⟩
          refine ⟨_, rfl, ?_⟩
          replace RX := RX.clo kk fa fw
          replace Ho3 := OwnV.low_clo Ho3 kk (by omega) (by omega)
          replace Hs3 := Hs3.map fun _ _ _ h => h.low_clo kk (by omega) (by omega)
          replace oS3 := oS3.low_clo kk (by omega) (by omega)
          replace oN3 := oN3.low_clo kk (by omega) (by omega)
          replace o3 := o3.low_clo kk (by omega) (by omega)
          clear fa fw kk
          have S' := (cell_blk RX.fh 4)
          clear hHeld
          refine hK.out _ _ S' (fun hHeld => ?_)
          clear hK K S'
          refine norm_ (a' := ?_) ?_ ?_
          rotate_left
          · show Act.put _ (some 89) _ = _
            simp only [Act.put, List.setIfInBounds_toArray, List.set_cons_zero, List.set_cons_succ]
            rfl
          refine take_ (i := 7) (N := some 90) (v := ?_) (a' := ?_) #[true, true, true, true, true, true, true, true, false, false, false, false] rfl rfl (by kernel_rfl) (fun _ _ _ h => h) (Or.inl ⟨by rfl, ?_⟩) hHeld ?_ ?_
          rotate_left
          · intro w' s0
            go_simp
            try with_reducible rfl
          rotate_left
          · simp only [Act.put, List.setIfInBounds_toArray, List.set_cons_zero, List.set_cons_succ]
            rfl
          refine one_ (i := 8) (N := some 91) #[true, true, true, true, true, true, true, true, true, false, false, false] rfl rfl (by kernel_rfl) (by decide) (fun K hK => ?_)
          refine value_ (v := .slice (some ⟨Y2.heap.size, 0, none⟩) 1 1) (w1 := Y2.alloc (.cells #[.slice A1 id.length c1, .int .i64 ep, .int .i64 ln] 98)) (by rfl) rfl (by go_simp) ?_
          have S' := cell_ext (bl_alloc (Below.refl _ _) (.cells #[.slice A1 id.length c1, .int .i64 ep, .int .i64 ln] 98)) (cell_blk RX.fh 4)
          clear hHeld
          refine hK.out _ _ S' (fun hHeld => ?_)
          clear hK K S'
          refine norm_ (a' := ?_) ?_ ?_
          rotate_left
          · show Act.put _ (some 91) _ = _
            simp only [Act.put, List.setIfInBounds_toArray, List.set_cons_zero, List.set_cons_succ]
            rfl
          refine one_ (i := 9) (N := some 92) #[true, true, true, true, true, true, true, true, true, true, false, false] rfl rfl (by kernel_rfl) (by decide) (fun K hK => ?_)
          refine step_appendV Y2 #[.slice A1 id.length c1, .int .i64 ep, .int .i64 ln] (by rfl) rfl (.tmp 84) (.tmp 91) 73 rfl (w.heap.size + 5) 98 i0 (.agg #[.slice none 0 0, .int .i64 0, .int .i64 0]) 3 40 Try.underlying73 hi hz0 hz1 hz2 rfl (by decide) AO Tl.length CO xs rfl Ho3 1 rfl rfl (by simp [Value.oneCell']) (by unfold maxLen; omega) (by omega) RX.sz ?_
          intro A4 c4 Y4 Ho4 Hb4 hfar
          replace RX := RX.low Hb4
          replace Hs3 := Hs3.map fun _ _ _ h => h.far Ho3 hfar
          replace oS3 := oS3.far Ho3 hfar
          replace oN3 := oN3.far Ho3 hfar
          replace o3 := o3.far Ho3 hfar
          clear hfar Hb4 Ho3
          have S' := (cell_blk RX.fh 4)
          clear hHeld
          refine hK.out _ _ S' (fun hHeld => ?_)
          clear hK K S'
          refine norm_ (a' := ?_) ?_ ?_
          rotate_left
          · show Act.put _ (some 92) _ = _
            simp only [Act.put, List.setIfInBounds_toArray, List.set_cons_zero, List.set_cons_succ]
            rfl
          refine take_ (i := 10) (N := some 93) (v := ?_) (a' := ?_) #[true, true, true, true, true, true, true, true, true, true, true, false] rfl rfl (by kernel_rfl) (fun _ _ _ h => h) (Or.inl ⟨by rfl, ?_⟩) hHeld ?_ ?_
          rotate_left
          · intro w' s0
            go_simp
            try with_reducible rfl
          rotate_left
          · simp only [Act.put, List.setIfInBounds_toArray, List.set_cons_zero, List.set_cons_succ]
            rfl
          have xc := cell_blk RX.fh 4
          have xf := (blk_facts RX.fh).2.1
          have RX5 : RdI w _ _ t2 e2 #[.int .i64 vv, .slice AS (saltB b).length cS, .int .i64 r, .slice AN (nonB b).length cN, .slice A4 (Tl.length + 1) c4] := RX.seth 4 (.slice A4 (Tl.length + 1) c4)
          have Ho5 := OwnV.set_far (i := 4) Ho4 (show w.heap.size + 4 < w.heap.size + 5 by omega) (.slice A4 (Tl.length + 1) c4)
          have Hs5 := (Hs3.map fun _ _ _ h => h.set_far (g := w.heap.size + 4) (i := 4) (by omega) (.slice A4 (Tl.length + 1) c4)).snoc (s := (id, ep, ln)) (o3.set_far (g := w.heap.size + 4) (i := 4) (by omega) (.slice A4 (Tl.length + 1) c4))
          have oS5 := oS3.set_far (g := w.heap.size + 4) (i := 4) (by omega) (.slice A4 (Tl.length + 1) c4)
          have oN5 := oN3.set_far (g := w.heap.size + 4) (i := 4) (by omega) (.slice A4 (Tl.length + 1) c4)
          have hTn : (Tl ++ [((id, ep, ln) : SectD)]).length = Tl.length + 1 := by simp
          replace RX5 := Lib.hid RX5; replace Ho5 := Lib.hid Ho5; replace Hs5 := Lib.hid Hs5; replace oS5 := Lib.hid oS5; replace oN5 := Lib.hid oN5; replace hTn := Lib.hid hTn
          refine last_ (i := 11) (N := none) #[true, true, true, true, true, true, true, true, true, true, true, true] rfl rfl (by kernel_rfl) (by decide) (fun K hK => ?_)
          refine skip_ (w1 := Y4.setCell ⟨w.heap.size + 4, 4, none⟩ (.slice A4 (Tl.length + 1) c4)) (by rfl) rfl (by go_simp) ?_
          refine hK.out _ _ ?_
          clear hK K
          refine done_ (by kernel_rfl) ?_
          go_wp2_with fail
          exact ⟨⟨k + 1, n - 1, by omega, congrArg (Value.int .i64) (by omega), t2, e2, Tl ++ [(id, ep, ln)], A4, c4, xs ++ [.slice A1 id.length c1, .int .i64 ep, .int .i64 ln], by show RdI _ _ _ _ _ _; rw [hTn.out]; exact RX5.out, by show OwnV _ _ _ _ _ _ _ _; rw [hTn.out]; exact Ho5.out, Hs5, oS5, oN5, by show _ ≤ _; rw [hTn.out]; have := hTl.out; omega, hnext.out⟩, by show ((n : Int) - 1).toNat < ((n : Int)).toNat; omega⟩
        · have hsE : sectE b T' = trE b T' 255 := by unfold sectE; rw [if_neg h1]
          have hro := rest_at M1.out hT hk (by rw [hsE]; exact h1)
          rw [hsE] at hro
          obtain ⟨E1, hE1⟩ : ∃ z, trE b T' 255 = z := ⟨_, rfl⟩
          rw [hE1] at h1 hro
          have e1 := ne_zero_true h1
          replace hE1 := Lib.hid hE1
          by_cases h3 : E1 = 3
          · have hE := Lib.hid (readE_rest3 K0.out.1 K0.out.2.1 K0.out.2.2 (hro.trans h3))
            subst h3
            clear hT hT' hst hro hsE
            go_wp2_with fail
            refine (c_takeRow (some ⟨bk, off, none⟩) c b (T' : Int) 255 _ 3 _ _ (Hok.out.ext X.out.bl) rfl rfl hE1.out).mono ?_; rintro x w2 ⟨⟨A1, c1, rfl, -⟩, hb2⟩
            have X2 := X.out.ext hb2
            clear y1 y2 y3 y4 y5 z2 z3 z4 z5 l0 l1 l2 l3 l4 hb2
            obtain ⟨⟨y1, y2, y3, y4, y5⟩, ⟨z2, z3, z4, z5⟩, l0, l1, l2, l3, l4⟩ := X2.facts
            have G2 := Lib.hid (X2.setw 3).bl
            clear X2
            go_wp2_with fail
            exact bodyPost_ret (v := .tuple #[.agg #[.int .i64 0, .slice none 0 0, .int .i64 0, .slice none 0 0, .slice none 0 0], .int .i64 0, .int .i64 3]) (by simp [results, Try.results50, go_sem, y5]) rfl (ReadPost.err hE.out (by decide) (bl_set5r G2.out _ _ _ _ _))
          · have hE := Lib.hid (readE_restx K0.out.1 K0.out.2.1 K0.out.2.2 (by rw [hro]; exact h3) (by rw [hro]; exact h1))
            have e3 : (E1 == 3) = false := by simpa using h3
            clear hT hT' hst hro hsE
            go_wp2_with fail
            refine (c_takeRow (some ⟨bk, off, none⟩) c b (T' : Int) 255 _ E1 _ _ (Hok.out.ext X.out.bl) rfl rfl hE1.out).mono ?_; rintro x w2 ⟨⟨A1, c1, rfl, -⟩, hb2⟩
            have X2 := X.out.ext hb2
            clear y1 y2 y3 y4 y5 z2 z3 z4 z5 l0 l1 l2 l3 l4 hb2
            obtain ⟨⟨y1, y2, y3, y4, y5⟩, ⟨z2, z3, z4, z5⟩, l0, l1, l2, l3, l4⟩ := X2.facts
            have G2 := Lib.hid (X2.setw E1).bl
            clear X2
            go_wp2_with fail
            exact bodyPost_ret (v := .tuple #[.agg #[.int .i64 0, .slice none 0 0, .int .i64 0, .slice none 0 0, .slice none 0 0], .int .i64 0, .int .i64 2]) (by simp [results, Try.results50, go_sem, y5]) rfl (ReadPost.err hE.out (by decide) (bl_set5r G2.out _ _ _ _ _))
      · obtain rfl : n = 0 := by omega
        obtain rfl : k = m := by omega
        have hro : restOf b = (0, Tl, t) := by unfold restOf; rw [show manyN b = (k : Int) from M1.out, Int.toNat_natCast]; exact hT
        have hE0 := readE_rest0 K0.out.1 K0.out.2.1 K0.out.2.2 hro
        rw [show verN b = vv from V1.out, show rndN b = (r : Int) from R1.out] at hE0
        have hT9 : Tl.length ≤ 140737488351232 := by have := hTl.out; omega
        have hH := Lib.hid (show OkH wr AS cS (saltB b) AN cN (nonB b) AO Tl from ⟨oS.out.ok, oN.out.ok, SecAt.rt Hs.out Ho.out, hT9⟩)
        obtain ⟨bR, hbR⟩ : ∃ z, rightH vv (saltB b) (r : Int) (nonB b) Tl = z := ⟨_, rfl⟩
        rw [hbR] at hE0
        replace hbR := Lib.hid hbR; replace hro := Lib.hid hro; replace hE0 := Lib.hid hE0
        clear hT hst
        cases bR
        · have hE := Lib.hid (hE0.out.trans (if_neg (by decide)))
          go_wp2_with fail
          refine (right_any vv (r : Int) _ _ (saltB b) _ _ (nonB b) AO CO Tl _ hH.out false hbR.out).mono ?_; rintro x w2 ⟨rfl, hb2⟩
          have X2 := X.out.ext hb2
          clear y1 y2 y3 y4 y5 z2 z3 z4 z5 l0 l1 l2 l3 l4 hb2
          obtain ⟨⟨y1, y2, y3, y4, y5⟩, ⟨z2, z3, z4, z5⟩, l0, l1, l2, l3, l4⟩ := X2.facts
          have G2 := Lib.hid X2.bl
          clear X2
          go_wp2_with fail
          exact bodyPost_ret (v := .tuple #[.agg #[.int .i64 0, .slice none 0 0, .int .i64 0, .slice none 0 0, .slice none 0 0], .int .i64 0, .int .i64 2]) (by simp [results, Try.results50, go_sem, y5]) rfl (ReadPost.err hE.out (by decide) (bl_set5r G2.out _ _ _ _ _))
        · have hE := Lib.hid (hE0.out.trans (if_pos rfl))
          go_wp2_with fail
          refine (right_any vv (r : Int) _ _ (saltB b) _ _ (nonB b) AO CO Tl _ hH.out true hbR.out).mono ?_; rintro x w2 ⟨rfl, hb2⟩
          have X2 := X.out.ext hb2
          have Ho2 := Lib.hid (OwnV.ext Ho.out hb2)
          have Hs2 := Lib.hid (Hs.out.map fun _ _ _ h => h.ext hb2)
          have oS2 := Lib.hid (oS.out.ext hb2)
          have oN2 := Lib.hid (oN.out.ext hb2)
          clear y1 y2 y3 y4 y5 z2 z3 z4 z5 l0 l1 l2 l3 l4 hb2
          obtain ⟨⟨y1, y2, y3, y4, y5⟩, ⟨z2, z3, z4, z5⟩, l0, l1, l2, l3, l4⟩ := X2.facts
          have G2 := Lib.hid X2.bl
          have X2' := Lib.hid X2
          clear X2
          go_wp2_with fail
          have U2 := X2'.out.ext (bl_drew (Below.refl _ _))
          have u5 := (blk_facts U2.fr).1
          have v5 := (blk_facts U2.fr).2.1
          refine start_ (n := 5) (S := (fun W' => W'.cell? ⟨w.heap.size + 2, 0, none⟩ = some (.int .i64 t) ∧ W'.cell? ⟨w.heap.size + 4, 0, none⟩ = some (.int .i64 vv) ∧ W'.cell? ⟨w.heap.size + 4, 1, none⟩ = some (.slice AS (saltB b).length cS) ∧ W'.cell? ⟨w.heap.size + 4, 2, none⟩ = some (.int .i64 r) ∧ W'.cell? ⟨w.heap.size + 4, 3, none⟩ = some (.slice AN (nonB b).length cN) ∧ W'.cell? ⟨w.heap.size + 4, 4, none⟩ = some (.slice AO Tl.length CO))) (ds := []) #[false, false, false, false, false] (by kernel_rfl) rfl rfl (⟨U2.facts.1.2.1, U2.facts.1.2.2.2.1 0, U2.facts.1.2.2.2.1 1, U2.facts.1.2.2.2.1 2, U2.facts.1.2.2.2.1 3, U2.facts.1.2.2.2.1 4⟩) (fun hHeld => ?_)
          refine take_ (i := 0) (N := some 107) (v := ?_) (a' := ?_) #[true, false, false, false, false] rfl rfl (by kernel_rfl) (fun _ _ _ h => h) (Or.inl ⟨by rfl, ?_⟩) hHeld ?_ ?_
          rotate_left
          · rintro w' ⟨s0, s1, s2, s3, s4, s5⟩
            go_simp
            try with_reducible rfl
          rotate_left
          · simp only [Act.put, List.setIfInBounds_toArray, List.set_cons_zero, List.set_cons_succ]
            rfl
          refine take_ (i := 1) (N := some 108) (v := ?_) (a' := ?_) #[true, true, false, false, false] rfl rfl (by kernel_rfl) (fun _ _ _ h => h) (Or.inl ⟨by rfl, ?_⟩) hHeld ?_ ?_
          rotate_left
          · rintro w' ⟨s0, s1, s2, s3, s4, s5⟩
            go_simp
            try with_reducible rfl
          rotate_left
          · simp only [Act.put, List.setIfInBounds_toArray, List.set_cons_zero, List.set_cons_succ]
            rfl
          refine one_ (i := 2) (N := none) #[true, true, true, false, false] rfl rfl (by kernel_rfl) (by decide) (fun K hK => ?_)
          refine skip_ (w1 := (((((w2.drew.setCell ⟨w.heap.size + 1, 0, none⟩ (.int .i64 vv)).setCell ⟨w.heap.size + 1, 1, none⟩ (.slice AS (saltB b).length cS)).setCell ⟨w.heap.size + 1, 2, none⟩ (.int .i64 r)).setCell ⟨w.heap.size + 1, 3, none⟩ (.slice AN (nonB b).length cN)).setCell ⟨w.heap.size + 1, 4, none⟩ (.slice AO Tl.length CO))) (by rfl) rfl (by go_simp) ?_
          have S' := U2.facts.1
          refine hK.out _ _ ⟨(far_set5 0 (by omega)).trans S'.2.1, (far_set5 0 (by omega)).trans (S'.2.2.2.1 0), (far_set5 0 (by omega)).trans (S'.2.2.2.1 1), (far_set5 0 (by omega)).trans (S'.2.2.2.1 2), (far_set5 0 (by omega)).trans (S'.2.2.2.1 3), (far_set5 0 (by omega)).trans (S'.2.2.2.1 4)⟩ (fun hHeld => ?_)
          clear hK K S'
          refine take_ (i := 3) (N := some 3) (v := ?_) (a' := ?_) #[true, true, true, true, false] rfl rfl (by kernel_rfl) (fun _ _ _ h => h) (Or.inl ⟨by rfl, ?_⟩) hHeld ?_ ?_
          rotate_left
          · rintro w' ⟨s0, s1, s2, s3, s4, s5⟩
            go_simp
            try with_reducible rfl
          rotate_left
          · simp only [Act.put, List.setIfInBounds_toArray, List.set_cons_zero, List.set_cons_succ]
            rfl
          refine take_ (i := 4) (N := some 4) (v := ?_) (a' := ?_) #[true, true, true, true, true] rfl rfl (by kernel_rfl) (fun _ _ _ h => h) (Or.inl ⟨by rfl, ?_⟩) hHeld ?_ ?_
          rotate_left
          · rintro w' ⟨s0, s1, s2, s3, s4, s5⟩
            go_simp
            try with_reducible rfl
          rotate_left
          · simp only [Act.put, List.setIfInBounds_toArray, List.set_cons_zero, List.set_cons_succ]
            rfl
          refine done_ (by kernel_rfl) ?_
          go_wp2_with fail
          refine bodyPost_ret (v := .tuple #[.agg #[.int .i64 vv, .slice AS (saltB b).length cS, .int .i64 r, .slice AN (nonB b).length cN, .slice AO Tl.length CO], .int .i64 t, .int .i64 0]) (by simp [results, Try.results50, go_sem, y5]) rfl ?_
          exact (ReadPost.ok hE.out V1.out R1.out hro.out ⟨(set5b (oS2.out.ext (bl_drew (Below.refl _ _))) _ _ _ _ _).ok, (set5b (oN2.out.ext (bl_drew (Below.refl _ _))) _ _ _ _ _).ok, SecAt.rt (b1 := w.heap.size + 5) (b2 := w.heap.size + 5) (Hs2.out.map fun _ _ _ h => set5b (h.ext (bl_drew (Below.refl _ _))) _ _ _ _ _) (set5v (OwnV.ext Ho2.out (bl_drew (Below.refl _ _))) _ _ _ _ _), hT9⟩ (bl_set5r (bl_drew G2.out) _ _ _ _ _))
    · have hE := Lib.hid (readE_rest3 K0.out.1 K0.out.2.1 K0.out.2.2 hT)
      have G2 := Lib.hid X.out.bl
      clear hT hst
      by_cases hp : 0 < n
      · go_wp2_with fail
        exact bodyPost_ret (v := .tuple #[.agg #[.int .i64 0, .slice none 0 0, .int .i64 0, .slice none 0 0, .slice none 0 0], .int .i64 0, .int .i64 3]) (by simp [results, Try.results50, go_sem, y5]) rfl (ReadPost.err hE.out (by decide) (bl_set5r G2.out _ _ _ _ _))
      · obtain rfl : n = 0 := by omega
        go_wp2_with fail
        exact bodyPost_ret (v := .tuple #[.agg #[.int .i64 0, .slice none 0 0, .int .i64 0, .slice none 0 0, .slice none 0 0], .int .i64 0, .int .i64 3]) (by simp [results, Try.results50, go_sem, y5]) rfl (ReadPost.err hE.out (by decide) (bl_set5r G2.out _ _ _ _ _))
/-- The head that bytes begin with. -/
theorem c_read (A : Option Addr) (c : Nat) (b : List UInt8) (w : World) (hok : OkB w A c b) (hl : b.length ≤ 1000000) : Calls Try.prog 50 #[.slice A b.length c] w (ReadPost b w) := by
  by_cases h : b.length < 38
  · exact read_short A c b w h
  · by_cases h2 : b.take 3 = [80, 89, 88]
    · by_cases hv : 1 ≤ verN b ∧ verN b ≤ 4
      · exact read_main A c b w hok hl h h2 hv
      · exact read_ver A c b w hok h h2 hv
    · exact read_mark A c b w hok h h2
end Go.Proofs.Ytlcclaicodghcaa
