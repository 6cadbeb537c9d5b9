import Derived.Test.YtlcclaicodghcaaCm
import Derived.Test.YtlcclaicodghcaaPf
namespace Go.Proofs.Ytlcclaicodghcaa
open Go.RowKit

theorem size_al (w : World) (o : Obj) : (w.alloc o).heap.size = w.heap.size + 1 := by simp
def cellsP (p : PieceD) : Array Value := #[.int .i64 p.1, .int .i64 p.2.1, .bool p.2.2.1, .int .i64 p.2.2.2.1, .int .i64 p.2.2.2.2]
def rowP (l : List PieceD) : List Value := l.flatMap fun p => (cellsP p).toList
theorem rowP_snoc (l : List PieceD) (p : PieceD) : rowP (l ++ [p]) = rowP l ++ (cellsP p).toList := by unfold rowP; rw [List.flatMap_append]; simp
theorem info94 : (Try.prog.info? 94).map (fun i => (i.zero, i.size, i.bytes)) = some (some (.agg #[.int .i64 0, .int .i64 0, .bool false, .int .i64 0, .int .i64 0]), 5, 40) := by kernel_rfl
theorem lenS_at {T : List SectD} {k : Nat} (h : k < T.length) : lenS T k = T[k].2.2.toNat := by unfold lenS; rw [getD_at h]
theorem lenS_le {T : List SectD} (h : rightTo T T.length = true) (i : Nat) : lenS T i ≤ 1048576 := by
  by_cases hi : i < T.length
  · rw [lenS_at hi]
    have := okS_iff.1 (right_ok h hi); omega
  · unfold lenS noS; simp [List.getD, hi]

/-- 'append(out, v)', and what lies elsewhere is as it was. -/
theorem append_far {P : Program} (w0 : World) (cs : Array Value) {ops : Array Oper} {rest : List Oper} {o : Oper} {a : Act} {Q : Exit → Act → World → Prop} (hgd : o.guard = none) (s x : Operand) (t : TypeId)
    (ho : o.op = .call { callee := .builtin .append, args := #[s, x], argTypes := #[t, t] })
    (base : Nat) (e : TypeId) (i : TypeInfo) (z : Value) (size bytes : Nat) (ht : P.underlying t = some (.slice e)) (hi : P.info? e = some i) (hz : i.zero = some z)
    (hsize : i.size = size) (hby : i.bytes = bytes) (hzs : z.cells.size = size) (hsz : 0 < size)
    (A : Option Addr) (n c : Nat) (xs : List Value) (hs : a.eval s = .slice A n c) (hown : OwnV w0 base e size A n c xs)
    (c' : Nat) (hx : a.eval x = .slice (some ⟨w0.heap.size, 0, none⟩) 1 c') (hcs : cs.size = size) (h1 : ∀ u ∈ cs.toList, u.oneCell' = true)
    (h63 : n + 1 ≤ maxLen) (hbytes : (n + 1) * bytes ≤ 140737488355328) (hbase : base ≤ w0.heap.size)
    (h : ∀ A2 c2 w', Hid (OwnV w' base e size A2 (n + 1) c2 (xs ++ cs.toList)) → Hid (Below base w0 w') → (∀ g, (Value.slice A n c).ownBlock ≠ some g → g < w0.heap.size → w'.heap[g]? = w0.heap[g]?) → wpList P ops Q rest (a.put o.dst (.slice A2 (n + 1) c2)) w') : wpList P ops Q (o :: rest) a (w0.alloc (.cells cs e)) := by
  have hb := bl_alloc (Below.refl w0.heap.size w0) (.cells cs e)
  refine wpList_append_own _ hgd s x t ho base e i z size bytes ht hi hz hsize hby hzs hsz _ n xs hs (hown.ext hb) ⟨w0.heap.size, 0, none⟩ 1 c' cs.toList hx (by simp [hcs]) (fun j u hj => ?_) h1 h63 hbytes (Nat.le_trans hbase hb.size) (fun v' w' h2 h3 _ => ?_)
  · rw [plain_add, World.cell?_alloc_at _ _ _ _ rfl]
    simpa using hj
  · obtain ⟨A2, c2, rfl, h4⟩ := OwnV.of h2
    have hb' : Below base w0 (w0.alloc (.cells cs e)) := ⟨hb.os, hb.tape, hb.output, hb.size, fun i hi => hb.block i (Nat.lt_of_lt_of_le hi hbase)⟩
    refine h A2 c2 w' h4 (Below.grown hb' h3 (Nat.le_trans hbase hb.size) (OwnV.low hown (Nat.le_refl _))) (fun g hne hg => ?_)
    exact (h3.block g (Nat.lt_of_lt_of_le hg hb.size) (fun he => hne he.symm)).trans (hb.block g hg)
theorem OwnV.lt {w : World} {base : Nat} {e : TypeId} {size : Nat} {A : Option Addr} {n c : Nat} {xs : List Value} (h : OwnV w base e size A n c xs) : ∀ k, (Value.slice A n c).ownBlock = some k → k < w.heap.size :=
  fun k hk => (World.ownsRow.lt h k hk).2

theorem OwnV.base_le {w : World} {base base' : Nat} {e : TypeId} {size : Nat} {A : Option Addr} {n c : Nat} {xs : List Value} (h : OwnV w base e size A n c xs) (hb : base' ≤ base) : OwnV w base' e size A n c xs := by
  refine ⟨h.1, ?_⟩
  rcases h.2 with h0 | ⟨g, cap, cur, h1, hg, h2⟩
  · exact .inl h0
  · exact .inr ⟨g, cap, cur, h1, Nat.le_trans hb hg, h2⟩
/-- A row of another type is another block. -/
theorem OwnV.ne_blk {w : World} {base : Nat} {e t : TypeId} {size g : Nat} {A : Option Addr} {n c : Nat} {xs : List Value} {cs : Array Value} (h : OwnV w base e size A n c xs) (hg : w.heap[g]? = some (.cells cs t (0, 0))) (hne : e ≠ t) : (Value.slice A n c).ownBlock ≠ some g := by
  rcases h.2 with ⟨h1, _⟩ | ⟨g', cap, cur, h1, _, hh, _⟩
  · rw [h1]; simp [Value.ownBlock]
  · rw [h1]
    intro he
    have : g' = g := by simpa [Value.ownBlock] using he
    subst this
    rw [hh] at hg
    injection hg with hg
    injection hg with _ ht
    exact hne ht
theorem cell_blk {w : World} {g : Nat} {t : TypeId} {cs : Array Value} (h : w.heap[g]? = some (.cells cs t (0, 0))) (i : Nat) : w.cell? ⟨g, i, none⟩ = cs[i]? := cell_of_row w g i cs t (0, 0) h
theorem blk_new (w : World) (cs : Array Value) (t : TypeId) : (w.alloc (.cells cs t)).heap[w.heap.size]? = some (.cells cs t (0, 0)) := heap_alloc_new w _
theorem blk_ext {b : Nat} {w w' : World} (hb : Below b w w') {g : Nat} {o : Obj} (hg : g < b) (h : w.heap[g]? = some o) : w'.heap[g]? = some o := (hb.block g hg).trans h
theorem lt_blk {w : World} {g : Nat} {o : Obj} (h : w.heap[g]? = some o) : g < w.heap.size := by
  rcases Nat.lt_or_ge g w.heap.size with hlt | hge
  · exact hlt
  · rw [Array.getElem?_eq_none hge] at h; cases h

set_option maxRecDepth 20000 in
set_option maxHeartbeats 4000000 in
theorem pieces_any (v r : Int) (AS : Option Addr) (cS : Nat) (S : List UInt8) (AN : Option Addr) (cN : Nat) (N : List UInt8) (AT : Option Addr) (cT : Nat) (T : List SectD) (w : World) (hH : OkH w AS cS S AN cN N AT T) (hR : rightH v S r N T = true) (n0 : Nat) (hn0 : (writeL v S r N T).length = n0) (hn9 : n0 ≤ 1000000) :
    Calls Try.prog 53 #[.agg #[.int .i64 v, .slice AS S.length cS, .int .i64 r, .slice AN N.length cN, .slice AT T.length cT]] w fun e w' => (∃ A c, e = .returned (.slice A (piecesP T n0 T.length).length c) ∧ OwnV w' w.heap.size 94 5 A (piecesP T n0 T.length).length c (rowP (piecesP T n0 T.length))) ∧ Below w.heap.size w w' := by
  have g0 := bl_alloc (Below.refl _ w) (.cells #[.int .i64 v, .slice AS S.length cS, .int .i64 r, .slice AN N.length cN, .slice AT T.length cT] 75)
  replace hH := Lib.hid (hH.ext g0)
  have G := Lib.hid g0
  clear g0
  obtain ⟨i0, hi, hz0, hz1, hz2⟩ := info_parts info94
  have hr := rightH_iff.1 hR
  have T9 : T.length ≤ 64 := hr.2.2.2.2.2.2.1
  have HRt := Lib.hid hr.2.2.2.2.2.2.2
  replace hn0 := Lib.hid hn0
  clear hr
  go_enter Try.func53, Try.ntmps53
  go_wp2_with fail
  refine (c_size v r AS cS S AN cN N AT cT T n0 _ hH.out hn0.out).mono ?_; rintro e w1 ⟨rfl, hb1⟩
  have x4 : w1.cell? ⟨w.heap.size, 4, none⟩ = some (.slice AT T.length cT) := box_at hb1 4
  have hT : RT (w.alloc (.cells #[.int .i64 v, .slice AS S.length cS, .int .i64 r, .slice AN N.length cN, .slice AT T.length cT] 75)) AT T := hH.out.2.2.1
  replace hT := Lib.hid (hT.ext hb1)
  have g1 := Lib.hid (bl_then G.out hb1)
  clear hb1
  go_wp2_with fail
  go_loopw [3, 4, 15] (fun o a i wr => ∃ k : Nat, k ≤ T.length ∧ i = .int .i64 k ∧ (∃ st : Nat, Hid (startP T n0 k = st) ∧ a = .int .i64 st) ∧ (∃ Ao co m xs, o = .slice Ao m co ∧ Hid (m = (piecesP T n0 k).length) ∧ Hid (xs = rowP (piecesP T n0 k)) ∧ Hid (OwnV wr w1.heap.size 94 5 Ao m co xs)) ∧ Hid (Below w1.heap.size w1 wr)) (fun _ _ i _ => T.length - (intOf i).toNat)
  case atStart => exact ⟨0, Nat.zero_le _, rfl, ⟨n0, rfl, rfl⟩, ⟨none, 0, 0, [], rfl, rfl, rfl, OwnV.nil _ _ _ _⟩, Below.refl _ _⟩
  case round =>
    obtain ⟨k, hk, rfl, ⟨st, hst, rfl⟩, ⟨Ao, co, m, xs, rfl, hm, hxs, Ho⟩, Hb⟩ := hrel
    by_cases hp : k < T.length
    · obtain ⟨bk, off, hA, hcells⟩ := (hT.out.ext Hb.out).some_ hp
      subst hA
      obtain ⟨⟨Ax, cx, y0, -⟩, y1, y2⟩ := hcells k hp
      have hok := okS_iff.1 (right_ok HRt.out hp)
      have hLN := lenS_at hp
      obtain ⟨s, hs⟩ : ∃ s, T[k] = s := ⟨_, rfl⟩
      obtain ⟨id, ep, ln⟩ := s
      rw [hs] at y0 y1 y2 hok hLN
      obtain ⟨LN, hLN'⟩ : ∃ z, lenS T k = z := ⟨_, rfl⟩
      have q1 : 1 ≤ ln := hok.2.2.2.1
      have q2 : ln ≤ 1048576 := hok.2.2.2.2
      obtain rfl : ln = (LN : Int) := by rw [hLN'] at hLN; show ln = _; have h9 : LN = ln.toNat := hLN; omega
      have hpl := piecesP_len T n0 (lenS_le HRt.out) k
      have hsl := startP_le T n0 (lenS_le HRt.out) k
      rw [← hm.out] at hpl
      rw [hst.out] at hsl
      have hN9 : nC LN ≤ 4096 := nC_le (by omega)
      replace hLN' := Lib.hid hLN'
      clear hs hLN hok hcells
      obtain ⟨wo, hwo⟩ : ∃ wo : World, wo = wr := ⟨_, rfl⟩
      subst hwo
      have ga := bl_alloc (Below.refl wo.heap.size wo) (.cells #[.slice Ax id.length cx, .int .i64 ep, .int .i64 (LN : Int)] 98)
      have Hb1 := Lib.hid (bl_then Hb.out ga)
      have Ho1 := Lib.hid (OwnV.ext Ho.out ga)
      clear ga
      go_wp2_with fail
      go_loopw [3, 4, 7] (fun o a j wi => ∃ q : Nat, Hid (q ≤ nC LN) ∧ q ≤ 4096 ∧ j = .int .i64 q ∧ (∃ at_ : Nat, Hid (atP LN st q = at_) ∧ at_ ≤ 100000000 ∧ a = .int .i64 at_) ∧ (∃ Ai ci m2 ys, o = .slice Ai m2 ci ∧ Hid (m2 = (piecesP T n0 k ++ chunksP k LN st q).length) ∧ m2 ≤ 1000000 ∧ Hid (ys = rowP (piecesP T n0 k ++ chunksP k LN st q)) ∧ Hid (OwnV wi w1.heap.size 94 5 Ai m2 ci ys)) ∧ Hid (Below w1.heap.size w1 wi) ∧ Hid (wi.heap[wo.heap.size]? = some (.cells #[.slice Ax id.length cx, .int .i64 ep, .int .i64 (LN : Int)] 98 (0, 0)))) (fun _ _ j _ => 5000 - (intOf j).toNat)
      case atStart => exact ⟨0, Nat.zero_le _, Nat.zero_le _, rfl, ⟨st, atP_zero _ _, by omega, rfl⟩, ⟨Ao, co, m, xs, rfl, by show _ = _; rw [hm.out]; simp [chunksP], by omega, by show _ = _; rw [hxs.out]; simp [chunksP], Ho1⟩, Hb1, blk_new _ _ _⟩
      case round =>
        obtain ⟨q, hq, hq9, rfl, ⟨at_, hat, hat9, rfl⟩, ⟨Ai, ci, m2, ys, rfl, hm2, hm9, hys, Hi⟩, Hw, Hz⟩ := hrel
        have z2 : wr.cell? ⟨wo.heap.size, 2, none⟩ = some (.int .i64 (LN : Int)) := (cell_blk Hz.out 2).trans rfl
        by_cases hlt : q * 256 < LN
        · obtain ⟨rest, hrest⟩ : ∃ z : Nat, LN - q * 256 = z := ⟨_, rfl⟩
          obtain ⟨M, hM⟩ : ∃ z : Nat, min rest 256 = z := ⟨_, rfl⟩
          have e1 : (q : Int) * 256 < (LN : Int) := by omega
          have e2 : (LN : Int) - (q : Int) * 256 = (rest : Int) := by omega
          have e3 : min (rest : Int) 256 = (M : Int) := by omega
          have hM9 : M ≤ 256 := by omega
          have hr9 : rest ≤ 1048576 := by omega
          have hqn : q < nC LN := nC_lt.2 hlt
          have hnx := Lib.hid ((atP_succ (a := st) hlt).trans (by rw [hat.out, hrest, hM]))
          have hcp : Hid (cellsP (chunkP k LN st q) = #[.int .i64 k, .int .i64 q, .bool (decide ((rest : Int) ≤ 256)), .int .i64 at_, .int .i64 ((M : Int) + 32)]) := by
            show _ = _
            have ef : st + q * 288 = at_ := by rw [← atP_from hlt, hat.out]
            have ed : decide (rest ≤ 256) = decide ((rest : Int) ≤ 256) := decide_eq_decide.2 (by omega)
            simp only [cellsP, chunkP, hrest, hM, ef, ed]
            simp
          replace hrest := Lib.hid hrest
          replace hM := Lib.hid hM
          have gp := bl_alloc (Below.refl wr.heap.size wr) (.cells #[.int .i64 k, .int .i64 q, .bool (decide ((rest : Int) ≤ 256)), .int .i64 at_, .int .i64 ((M : Int) + 32)] 94)
          have Hip := Lib.hid (OwnV.ext Hi.out gp)
          have Hwp := Lib.hid (bl_then Hw.out gp)
          have Hzp := Lib.hid (blk_ext (bl_alloc (Below.refl wr.heap.size wr) (.cells #[.int .i64 k, .int .i64 q, .bool (decide ((rest : Int) ≤ 256)), .int .i64 at_, .int .i64 ((M : Int) + 32)] 94)) (lt_blk Hz.out) Hz.out)
          clear gp
          go_wp2_with (at_builtin; refine append_far _ #[.int .i64 k, .int .i64 q, .bool (decide ((rest : Int) ≤ 256)), .int .i64 at_, .int .i64 ((M : Int) + 32)] rfl (.tmp 41) (.tmp 43) 87 rfl w1.heap.size 94 i0 (.agg #[.int .i64 0, .int .i64 0, .bool false, .int .i64 0, .int .i64 0]) 5 40 Try.underlying87 hi hz0 hz1 hz2 rfl (by decide) Ai m2 ci ys rfl Hip.out 1 (by rw [size_al]; rfl) rfl (by simp [Value.oneCell']) (by unfold maxLen; omega) (by omega) Hwp.out.size ?_; intro A2 c2 w2 Ho2 Hb2 hfar; have z5 : w2.cell? ⟨wr.heap.size, 4, none⟩ = some (.int .i64 ((M : Int) + 32)) := (cell_blk ((hfar wr.heap.size (fun e => Nat.lt_irrefl _ (OwnV.lt Hi.out _ e)) (by simp)).trans (blk_new _ _ _)) 4).trans rfl; have Hz2 := Lib.hid ((hfar wo.heap.size (OwnV.ne_blk Hip.out Hzp.out (by decide)) (lt_blk Hzp.out)).trans Hzp.out); clear hfar)
          have hcs := chunksP_succ k LN st q
          refine ⟨⟨q + 1, hqn, by omega, congrArg (Value.int .i64) (by omega), ⟨at_ + (M + 32), hnx, ?_, congrArg (Value.int .i64) (by omega)⟩, ⟨A2, c2, m2 + 1, _, rfl, ?_, ?_, ?_, Ho2⟩, Hwp.out.trans Hb2.out, Hz2⟩, by show 5000 - ((q : Int) + 1).toNat < 5000 - ((q : Int)).toNat; omega⟩
          · have := hat.out; have := hsl; unfold atP at *; omega
          · show _ = _; rw [hcs, ← List.append_assoc, List.length_append, ← hm2.out]; rfl
          · have h9 := hm2.out; rw [List.length_append, chunksP_len] at h9; have h8 := hm.out; omega
          · show _ = _; rw [hcs, ← List.append_assoc, rowP_snoc, ← hys.out, hcp.out]
        · have hqe : q = nC LN := by have := hq.out; have := nC_lt (s := LN) (k := q); omega
          go_wp2_with fail
          have hst2 : startP T n0 (k + 1) = at_ := by rw [startP, hst.out, hLN'.out, ← hat.out, hqe, atP_end]
          have hpc : piecesP T n0 (k + 1) = piecesP T n0 k ++ chunksP k LN st q := by rw [piecesP, hLN'.out, hst.out, hqe]
          exact ⟨⟨k + 1, by omega, congrArg (Value.int .i64) (by omega), ⟨at_, hst2, rfl⟩, ⟨Ai, ci, m2, ys, rfl, by show _ = _; rw [hpc]; exact hm2.out, by show _ = _; rw [hpc]; exact hys.out, Hi⟩, Hw⟩, by show T.length - ((k : Int) + 1).toNat < T.length - ((k : Int)).toNat; omega⟩
    · have hke : k = T.length := by omega
      subst hke
      go_wp2_with fail
      go_ret
      exact ⟨⟨Ao, co, ret_sl hm.out, by rw [← hm.out, ← hxs.out]; exact Ho.out.base_le g1.out.size⟩, bl_then g1.out Hb.out⟩
end Go.Proofs.Ytlcclaicodghcaa
