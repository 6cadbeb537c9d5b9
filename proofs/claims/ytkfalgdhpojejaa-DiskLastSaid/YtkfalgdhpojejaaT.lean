import Derived.Test.YtkfalgdhpojejaaS
import Derived.RangeFuncNested
import Derived.RangeFuncLeaves
import Derived.Shelf.Abstract
import Derived.Shelf.RegionOpen
import Derived.OwnWalkIn
import Derived.TacticsInMore
import Derived.LoopNIn
import Derived.LoopIn
namespace Go.Proofs.Ytkfalgdhpojejaa
open Go.RowKit Go.Shelf
attribute [local go_sem] Oper.semAt_some

def pg (P : List PutD) (j : Nat) : PutD := P.getD j (0, [])
/-- The places that have come when k rounds from the back are over. -/
def down (n k : Nat) : List Nat := (List.range k).map fun j => n - 1 - j
theorem down_succ (n k : Nat) : down n (k + 1) = down n k ++ [n - 1 - k] := by simp [down, List.range_succ]
theorem down_length (n k : Nat) : (down n k).length = k := by simp [down]

set_option maxRecDepth 100000 in
set_option maxHeartbeats 1000000 in
theorem back1_in (n : Nat) (hn : 1 ≤ n) (l Bs n₀ : Nat) (AP : Option Addr) (len cap : Nat) (pa : Nat → Int) (A' : Nat → Option Addr) (l' c' : Nat → Nat) (hreach : len ≤ 140737488351232) (J Jx : List Nat → World → Prop)
    (hY : ∀ (pre : List Nat) (x : Nat) (W : World), J pre W → pre.length < len → YieldAt Fence.wide (n - 1) Try.prog l #[.int .i64 (x : Int), .agg #[.int .i64 (pa x), .slice (A' x) (l' x) (c' x)]] W fun e W' =>
      (e = .returned (.bool true) ∧ J (pre ++ [x]) W' ∧ Below n₀ W W') ∨ (e = .returned (.bool false) ∧ Jx (pre ++ [x]) W'))
    (W : World) (hBs : W.cell? ⟨Bs, 0, none⟩ = some (.slice AP len cap)) (hBn : Bs < n₀)
    (hc : ∀ j, j < len → ∃ b off, b < n₀ ∧ AP = some ⟨b, off, none⟩ ∧ W.cell? ⟨b, off + j * 2, none⟩ = some (.int .i64 (pa j)) ∧ W.cell? ⟨b, off + j * 2 + 1, none⟩ = some (.slice (A' j) (l' j) (c' j))) (h0 : J [] W) :
    CallsIn Fence.wide n Try.prog 49 #[.func (.yield l) #[] #[], .pointer (some ⟨Bs, 0, none⟩)] W fun e W' => (∃ v, e = .returned v) ∧
      ((∃ ys, ys = down len len ∧ J ys W') ∨ (∃ pre, (∃ k, k ≤ len ∧ pre = down len k) ∧ Jx pre W')) := by
  refine callsIn_of_wp Try.func49 rfl trivial ?_ rfl
  simp only [Try.ntmps49, List.size_toArray, List.length_cons, List.length_nil, Nat.reduceAdd, Nat.reduceSub, Array.replicate_succ, Array.replicate_zero, List.push_toArray, List.append_toArray, List.nil_append, List.cons_append]
  gi_wp2
  gi_loopw [3] (fun i wr => ∃ m : Nat, m ≤ len ∧ i = .int .i64 ((m : Int) - 1) ∧ J (down len (len - m)) wr ∧ Below n₀ W wr)
    (fun i _ => (intOf i + 1).toNat)
  case atStart => exact ⟨len, Nat.le_refl _, by go_num, by simpa [down] using h0, Below.refl _ _⟩
  case round =>
    obtain ⟨m, hm, rfl, hJs, hnx⟩ := hrel
    cases m with
    | zero =>
      gi_wp2
      go_end0
      exact ⟨⟨_, rfl⟩, .inl ⟨_, rfl, by simpa using hJs⟩⟩
    | succ m =>
      obtain ⟨b, off, hb, rfl, hc0, hc1⟩ := hc m (by omega)
      replace hc0 := (hnx.cell (p := ⟨b, off + m * 2, none⟩) hb).trans hc0
      replace hc1 := (hnx.cell (p := ⟨b, off + m * 2 + 1, none⟩) hb).trans hc1
      have hBs' := (hnx.cell (p := ⟨Bs, 0, none⟩) hBn).trans hBs
      have hge : (0 : Int) ≤ ((m + 1 : Nat) : Int) - 1 := by omega
      have hlt : ((m + 1 : Nat) : Int) - 1 < len := by omega
      obtain ⟨fn, tmps, assign, body, hy, hR⟩ := hY _ m wr hJs (by rw [down_length]; omega)
      gi_wp2
      refine hR.mono ?_
      have hd : down len (len - m) = down len (len - (m + 1)) ++ [m] := by
        rw [show len - m = (len - (m + 1)) + 1 by omega, down_succ, show len - 1 - (len - (m + 1)) = m by omega]
      rintro e W3 (⟨rfl, hJ3, hk3⟩ | ⟨rfl, hJx3⟩)
      · gi_wp2
        go_roundw
        case rel => exact ⟨m, by omega, by go_num, by rw [hd]; exact hJ3, hnx.trans hk3⟩
        case measure => simp [intOf]
      · gi_wp2
        refine bodyPost_ret (results_none rfl _ _ _) rfl ?_
        exact ⟨⟨_, rfl⟩, .inr ⟨_, ⟨len - m, by omega, hd.symm⟩, hJx3⟩⟩

set_option maxHeartbeats 1000000 in
theorem back_in (n : Nat) (a : Option Addr) (len cap : Nat) (w : World) :
    CallsIn Fence.wide n Try.prog 41 #[.slice a len cap] w fun e w' => e = .returned (.func (.func 49) #[] #[.pointer (some ⟨w.heap.size, 0, none⟩)]) ∧ w' = w.alloc (.cells #[.slice a len cap] 23) := by
  refine callsIn_of_wp Try.func41 rfl trivial ?_ rfl
  simp only [Try.ntmps41, List.size_toArray, List.length_cons, List.length_nil, Nat.reduceAdd, Nat.reduceSub, Array.replicate_succ, Array.replicate_zero, List.push_toArray, List.append_toArray, List.nil_append, List.cons_append]
  gi_wp2
  go_ret
  exact ⟨rfl, rfl⟩

theorem back_stops (n : Nat) (hn : 1 ≤ n) (Bs : Nat) (AP : Option Addr) (len cap : Nat) (pa : Nat → Int) (A' : Nat → Option Addr) (l' c' : Nat → Nat) (hreach : len ≤ 140737488351232) (w : World)
    (hcB : w.cell? ⟨Bs, 0, none⟩ = some (.slice AP len cap))
    (hc : ∀ j, j < len → ∃ b off, AP = some ⟨b, off, none⟩ ∧ w.cell? ⟨b, off + j * 2, none⟩ = some (.int .i64 (pa j)) ∧ w.cell? ⟨b, off + j * 2 + 1, none⟩ = some (.slice (A' j) (l' j) (c' j))) :
    SeqStopsK Fence.wide n Try.prog 49 #[.pointer (some ⟨Bs, 0, none⟩)] (fun x : Nat => #[Value.int .i64 (x : Int), .agg #[.int .i64 (pa x), .slice (A' x) (l' x) (c' x)]]) (Below w.heap.size) (fun ys => ys = down len len)
      (fun pre => ∃ k, k ≤ len ∧ pre = down len k) len w := fun l J Jx W hW _ _ hY h0 =>
  back1_in n hn l Bs w.heap.size AP len cap pa A' l' c' hreach J Jx hY W (cell_ext hW hcB) (blk_lt hcB)
    (fun j hj => let ⟨b, off, h1, h2, h3⟩ := hc j hj; ⟨b, off, blk_lt h2, h1, cell_ext hW h2, cell_ext hW h3⟩) h0
theorem rbf_grown {φ : Nat → Prop} {W W' : World} {row : Option Nat} {A : Option Addr} {bs : List UInt8} (h : RBF φ W A bs) (hg : W.grownBy W' row) (hrow : ∀ r, row = some r → ∃ o : Obj, W.heap[r]? = some o ∧ o.isCells = false) : RBF φ W' A bs :=
  h.imp id fun ⟨b, off, hb, h1, h2⟩ => ⟨b, off, hb, h1, fun i hi => cell_kept (h2 i hi) hg hrow⟩
theorem vbf_grown {φ : Nat → Prop} {W W' : World} {row : Option Nat} {v : Value} {bs : List UInt8} (h : VBF φ W v bs) (hg : W.grownBy W' row) (hrow : ∀ r, row = some r → ∃ o : Obj, W.heap[r]? = some o ∧ o.isCells = false) : VBF φ W' v bs :=
  let ⟨A, c, h1, h2, h3, h4⟩ := h; ⟨A, c, h1, h2, h3, rbf_grown h4 hg hrow⟩
theorem keepsFrom_below {B : Nat} {W W' : World} (h : Below W.heap.size W W') : KeepsFrom B W W' :=
  ⟨h.size, fun _ _ _ hk _ => (h.block _ (Array.getElem?_eq_some_iff.1 hk).1).trans hk⟩

theorem box4 {w w1 : World} {c1 c2 c3 c4 : Array Value} {t1 t2 t3 t4 : TypeId} (hb : Below ((((w.alloc (.cells c1 t1)).alloc (.cells c2 t2)).alloc (.cells c3 t3)).alloc (.cells c4 t4)).heap.size ((((w.alloc (.cells c1 t1)).alloc (.cells c2 t2)).alloc (.cells c3 t3)).alloc (.cells c4 t4)) w1) :
    ((∀ o, w1.cell? ⟨w.heap.size, o, none⟩ = c1[o]?) ∧ (∀ o, w1.cell? ⟨w.heap.size + 1, o, none⟩ = c2[o]?)) ∧ ((∀ o, w1.cell? ⟨w.heap.size + 1 + 1, o, none⟩ = c3[o]?) ∧ (∀ o, w1.cell? ⟨w.heap.size + 1 + 1 + 1, o, none⟩ = c4[o]?)) ∧
      (∀ o, w1.frozen? ⟨w.heap.size + 1 + 1, o, none⟩ = false) ∧ (∀ o, w1.frozen? ⟨w.heap.size + 1 + 1 + 1, o, none⟩ = false) ∧ w.heap.size + 4 ≤ w1.heap.size := by
  have h4 := box1 hb
  have b3 := bl_then (bl_alloc (Below.refl _ (((w.alloc (.cells c1 t1)).alloc (.cells c2 t2)).alloc (.cells c3 t3))) (.cells c4 t4)) hb
  have h3 := box1 b3
  have h2 := box2 (bl_then (bl_alloc (Below.refl _ ((w.alloc (.cells c1 t1)).alloc (.cells c2 t2))) (.cells c3 t3)) b3)
  simp only [World.size_alloc] at h4 h3
  have := hb.size
  simp only [World.size_alloc] at this
  exact ⟨⟨h2.1, h2.2.2.1⟩, ⟨h3.1, h4.1⟩, h3.2.1, h4.2.1, by omega⟩

theorem set2 {w : World} {s : Nat} {x y : Value} (h1 : ∀ o, w.cell? ⟨s + 1 + 1, o, none⟩ = #[x][o]?) (h2 : ∀ o, w.cell? ⟨s + 1 + 1 + 1, o, none⟩ = #[y][o]?) (u v : Value) :
    ((w.setCell ⟨s + 1 + 1, 0, none⟩ u).setCell ⟨s + 1 + 1 + 1, 0, none⟩ v).cell? ⟨s + 1 + 1, 0, none⟩ = some u ∧ ((w.setCell ⟨s + 1 + 1, 0, none⟩ u).setCell ⟨s + 1 + 1 + 1, 0, none⟩ v).cell? ⟨s + 1 + 1 + 1, 0, none⟩ = some v := by
  constructor
  · rw [World.cell?_of_block (Below.heap_setCell _ _ _ _ (by simp))]
    exact World.cell?_setCell_same' _ _ _ (by rw [h1]; rfl)
  · exact World.cell?_setCell_same' _ _ _ (by rw [World.cell?_of_block (Below.heap_setCell _ _ _ _ (by simp)), h2]; rfl)
theorem mem_down {n k j : Nat} (h : j < k) : n - 1 - j ∈ down n k := List.mem_map.2 ⟨j, List.mem_range.2 h, rfl⟩
theorem readTo_down (B : List (List UInt8)) (P : List PutD) (at_ : Int) (n : Nat) : ∀ k, k ≤ n → (∀ j ∈ down n k, (pg P j).1 ≠ at_) → readTo B P at_ n = readTo B P at_ (n - k)
  | 0, _, _ => rfl
  | k + 1, hk, h => by
    rw [readTo_down B P at_ n k (by omega) (fun j hj => h j (by rw [down_succ]; exact List.mem_append_left _ hj)), show n - k = (n - (k + 1)) + 1 by omega, readTo]
    refine if_neg ?_
    have := h (n - (k + 1)) (by rw [down_succ, show n - 1 - k = n - (k + 1) by omega]; simp)
    exact this

set_option maxRecDepth 100000 in
set_option maxHeartbeats 2000000 in
theorem read_any (φ : Nat → Prop) (AB : Option Addr) (cb : Nat) (AP : Option Addr) (cp : Nat) (f at_ : Int) (w : World) (B : List (List UInt8)) (P : List PutD) (hB : RBBF φ w AB B) (hP : RPF φ w AP P) (hlB : B.length ≤ 140737488351232) (hlP : P.length ≤ 140737488351232) (hin : 0 ≤ at_ ∧ at_ < B.length) (hf : (f == 0) = false) :
    Calls Try.prog 19 #[.agg #[.slice AB B.length cb, .slice AP P.length cp, .int .i64 f], .int .i64 at_] w fun e w' =>
      (∃ v, e = .returned (.tuple #[v, .int .i64 0]) ∧ VBF (fun b => φ b ∨ w.heap.size ≤ b) w' v (readTo B P at_ P.length)) ∧ Below w.heap.size w w' := by
  have hch : ∀ j, ∃ q : Option Addr × Nat, (j < P.length → ∃ b off, AP = some ⟨b, off, none⟩ ∧ w.cell? ⟨b, off + j * 2, none⟩ = some (.int .i64 (pg P j).1) ∧ w.cell? ⟨b, off + j * 2 + 1, none⟩ = some (.slice q.1 (pg P j).2.length q.2)) ∧ (pg P j).2.length ≤ 140737488351232 ∧ RBF φ w q.1 (pg P j).2 := by
    intro j
    by_cases hj : j < P.length
    · obtain ⟨b, off, h1, h2, A2, c2, h3, A3, c3, h4, h5, h6, h7⟩ := hP.some_ hj
      cases h4
      rw [show pg P j = P[j] by simp [pg, hj]]
      exact ⟨(A2, c2), fun _ => ⟨b, off, h1, h2, h3⟩, h6, h7⟩
    · exact ⟨(none, 0), fun h => absurd h hj, by simp [pg, hj], .inl (by simp [pg, hj])⟩
  obtain ⟨q, hq⟩ := Classical.axiomOfChoice hch
  clear hch
  have hat : at_.toNat < B.length := by omega
  have hx : ∃ b off, AB = some ⟨b, off, none⟩ ∧ ∃ A' c', w.cell? ⟨b, off + at_.toNat, none⟩ = some (.slice A' B[at_.toNat].length c') ∧ B[at_.toNat].length ≤ 140737488351232 ∧ RBF φ w A' B[at_.toNat] := by
    rcases hB with rfl | ⟨b, off, _, e1, e2⟩
    · simp at hat
    · obtain ⟨v, e3, A', c', rfl, _, e5, e4⟩ := e2 _ hat
      exact ⟨b, off, e1, A', c', e3, e5, e4⟩
  refine (callsIn_wide (n := 5)).1 ?_
  refine callsIn_of_wp_marks Try.func19 rfl trivial ?_ rfl
  simp only [Try.ntmps19, List.size_toArray, List.length_cons, List.length_nil, Nat.reduceAdd, Nat.reduceSub, Array.replicate_succ, Array.replicate_zero, List.push_toArray, List.append_toArray, List.nil_append, List.cons_append]
  gi_wp2_with (first | (refine ⟨trivial, ?_⟩; gi_at_call 34; refine (callsIn_wide.2 (isBlock_any AB B.length cb AP P.length cp f at_ _)).mono ?_; rintro e w1 ⟨rfl, hb1⟩; obtain ⟨⟨c1, c2⟩, -, -, -, -⟩ := box4 hb1) | (refine ⟨trivial, ?_⟩; gi_at_call 17; refine (callsIn_wide.2 (off_any AB B.length cb AP P.length cp f _)).mono ?_; rintro e w2 ⟨rfl, hb2⟩; obtain ⟨⟨d1, -⟩, -, -, -, -⟩ := box4 (bl_then hb1 hb2)) | (refine ⟨trivial, ?_⟩; gi_at_call 41; refine (back_in _ AP P.length cp _).mono ?_; rintro e w3 ⟨rfl, rfl⟩))
  have hcB := World.cell?_alloc_new w2 #[.slice AP P.length cp] 23 0
  have Hall := bl_then (bl_then hb1 hb2) (bl_alloc (Below.refl _ w2) (.cells #[.slice AP P.length cp] 23))
  obtain ⟨⟨d1, d2⟩, ⟨d3, d4⟩, f3, f4, hs2⟩ := box4 Hall
  have hB0 := bl_then (bl_alloc (bl_alloc (bl_alloc (bl_alloc (Below.refl _ w) _) _) _) _) Hall
  have hP2 : ∀ j, j < P.length → ∃ b off, AP = some ⟨b, off, none⟩ ∧ (w2.alloc (.cells #[.slice AP P.length cp] 23)).cell? ⟨b, off + j * 2, none⟩ = some (.int .i64 (pg P j).1) ∧ (w2.alloc (.cells #[.slice AP P.length cp] 23)).cell? ⟨b, off + j * 2 + 1, none⟩ = some (.slice (q j).1 (pg P j).2.length (q j).2) :=
    fun j hj => let ⟨b, off, h1, h2, h3⟩ := (hq j).1 hj; ⟨b, off, h1, cell_ext hB0 h2, cell_ext hB0 h3⟩
  have hs0 : (w2.alloc (.cells #[.slice AP P.length cp] 23)).heap.size = w2.heap.size + 1 := World.size_alloc _ _
  obtain ⟨W0, hW0⟩ : ∃ W0, w2.alloc (.cells #[.slice AP P.length cp] 23) = W0 := ⟨_, rfl⟩
  rw [hW0] at hcB hP2 hB0 hs0 Hall d1 d2 d3 d4 f3 f4 hs2 ⊢
  refine wpIn_rangeFunc_ownH rfl (by omega) (gf := 49) (lb := #[.pointer (some ⟨w2.heap.size, 0, none⟩)]) rfl trivial (enters_of Try.func49 (by kernel_rfl) rfl)
    (back_stops 4 (by omega) w2.heap.size AP P.length cp (fun j => (pg P j).1) (fun j => (q j).1) (fun j => (pg P j).2.length) (fun j => (q j).2) hlP W0 hcB hP2) belowK_t (belowK_b (Nat.le_refl _)) (Below.refl _ _) (fun _ => rfl)
    (fun pre W => (∀ j ∈ pre, (pg P j).1 ≠ at_) ∧ Below W0.heap.size W0 W)
    (fun c pre W => (c = .ret ∧ ∃ ini last v, pre = ini ++ [last] ∧ (∀ j ∈ ini, (pg P j).1 ≠ at_) ∧ (pg P last).1 = at_ ∧ W.cell? ⟨w.heap.size + 1 + 1, 0, none⟩ = some v ∧ W.cell? ⟨w.heap.size + 1 + 1 + 1, 0, none⟩ = some (.int .i64 0) ∧ VBF (fun b => w.heap.size + 4 ≤ b) W v (pg P last).2) ∧ Below w.heap.size w W)
    (OwnFrom.and (ownFrom_pure _ _) (ownFrom_below (Nat.le_refl _) (Nat.le_refl _)))
    (fun c => OwnFrom.and (Own.from (fun s A B row hs hg hr => by obtain ⟨hc, ini, last, v, e1, e2, e3, e4, e5, e6⟩ := hs; exact ⟨hc, ini, last, v, e1, e2, e3, cell_kept e4 hg hr, cell_kept e5 hg hr, vbf_grown e6 hg hr⟩) _) (ownFrom_below (Nat.le_refl _) hB0.size))
    ⟨by simp, Below.refl _ _⟩
    (fun x a' W => ∃ Bx, W0.heap.size ≤ Bx ∧ (W.cell? ⟨Bx, 0, none⟩ = some (.int .i64 (pg P x).1) ∧ W.cell? ⟨Bx, 1, none⟩ = some (.slice (q x).1 (pg P x).2.length (q x).2)) ∧ a' = { tmps := #[.agg #[.slice AB B.length cb, .slice AP P.length cp, .int .i64 f], .int .i64 at_, .pointer (some ⟨w.heap.size, 0, none⟩), .pointer (some ⟨w.heap.size + 1, 0, none⟩), .pointer (some ⟨w.heap.size + 1 + 1, 0, none⟩), .pointer (some ⟨w.heap.size + 1 + 1 + 1, 0, none⟩), undef, .pointer (some ⟨Bx, 0, none⟩), .bool false, .agg #[.slice AB B.length cb, .slice AP P.length cp, .int .i64 f], .int .i64 at_, .bool true, .bool false, .bool false, .agg #[.slice AB B.length cb, .slice AP P.length cp, .int .i64 f], .bool false, .pointer (some ⟨w.heap.size, 1, none⟩), .slice AP P.length cp, .func (.func 49) #[] #[.pointer (some ⟨w2.heap.size, 0, none⟩)], .int .i64 (x : Int), .agg #[.int .i64 (pg P x).1, .slice (q x).1 (pg P x).2.length (q x).2], undef, undef, undef, undef, undef, undef, undef, undef, undef, undef, undef, undef, undef], defers := [] })
    (fun x a' _ X Y row hs hg hr => by obtain ⟨Bx, h1, ⟨h2, h3⟩, h4⟩ := hs; exact ⟨Bx, h1, ⟨cell_kept h2 hg (fun r e => (hr r e).2), cell_kept h3 hg (fun r e => (hr r e).2)⟩, h4⟩)
    ?assign ?body ?done ?stop
  case assign =>
    rintro l pre x W K ⟨hne, hB1⟩ hK
    gi_wp2
    exact hK _ _ ((KeepsOthers.alloc _ _).from _) ((Below.refl _ W).alloc hB1.size _) ⟨hne, hB1.alloc hB1.size _⟩ ⟨W.heap.size, hB1.size, ⟨by simp, by simp⟩, rfl⟩
  case body =>
    rintro l pre x a' W hl ⟨r, hr⟩ ⟨hne, hB1⟩ ⟨Bx, hBx, ⟨x1, x2⟩, rfl⟩ hlt
    have Hx := (hq x).2
    obtain ⟨⟨-, e2⟩, ⟨e3, e4⟩, g3, g4, hs3⟩ := box4 (bl_then Hall hB1)
    have hBW := bl_then hB0 hB1
    by_cases hpx : (pg P x).1 = at_
    · gi_wp2_with (refine ⟨trivial, ?_⟩; gi_at_call 42; refine (CallsIn.inRound l (callsIn_wide.2 (clone_any (q x).1 (q x).2 (pg P x).2 _ (Hx.2.kept (Kept.below _ hBW)).plain Hx.1))).mono ?_; rintro e w4 ⟨⟨v, rfl, hv⟩, hb4⟩; obtain ⟨-, ⟨k3, k4⟩, k5, k6, hs4⟩ := box4 (bl_then (bl_then Hall hB1) hb4); obtain ⟨A3, c3, rfl, v1, v2, v3⟩ := hv)
      have hv4 : VBF (fun b => w.heap.size + 4 ≤ b) w4 (.slice A3 (pg P x).2.length c3) (pg P x).2 := VBF.mono ⟨A3, c3, rfl, v1, v2, v3⟩ (fun b hb => Nat.le_trans hs3 hb)
      have hv5 := hv4.kept (((Kept.refl (fun b => w.heap.size + 4 ≤ b) w4).set (p := ⟨w.heap.size + 1 + 1, 0, none⟩) (by simp) (.slice A3 (pg P x).2.length c3)).set (p := ⟨w.heap.size + 1 + 1 + 1, 0, none⟩) (by simp) (.int .i64 0))
      refine ⟨(keepsFrom_below hb4).trans (((KeepsOthers.setCell _ _ _).from _).trans ((KeepsOthers.setCell _ _ _).from _)), ⟨rfl, pre, x, _, rfl, hne, hpx, ?_, ?_, hv5⟩, bl_set (bl_set (bl_then hBW hb4) (by simp; omega) _) (by simp; omega) _⟩
      · exact (set2 k3 k4 _ _).1
      · exact (set2 k3 k4 _ _).2
    · gi_wp2
      exact ⟨KeepsFrom.refl _ _, Below.refl _ _, ⟨fun j hj => (List.mem_append.1 hj).elim (hne j) (fun e => by simp at e; subst e; exact hpx), hB1⟩⟩
  case done =>
    rintro D ys W hD rfl ⟨hne, hB1⟩ hK
    obtain ⟨⟨e1, e2⟩, ⟨e3, e4⟩, g3, g4, hs3⟩ := box4 (bl_then Hall hB1)
    have hBW := bl_then hB0 hB1
    obtain ⟨b, off, rfl, A', c', h2, h3, h4⟩ := hx
    have h2' := cell_ext hBW h2
    have hr : readTo B P at_ P.length = B[at_.toNat] := by
      rw [readTo_down B P at_ P.length P.length (Nat.le_refl _) hne, Nat.sub_self, readTo]; simp [hat]
    obtain ⟨hi1, hi2⟩ := hin
    gi_wp2_with (refine ⟨trivial, ?_⟩; gi_at_call 42; refine (callsIn_wide.2 (clone_any A' c' B[at_.toNat] _ (h4.kept (Kept.below _ hBW)).plain h3)).mono ?_; rintro e w4 ⟨⟨v, rfl, hv⟩, hb4⟩; obtain ⟨-, ⟨k3, k4⟩, k5, k6, hs4⟩ := box4 (bl_then (bl_then Hall hB1) hb4); obtain ⟨A3, c3, rfl, v1, v2, v3⟩ := hv)
    have hv4 : VBF (fun b => w.heap.size + 4 ≤ b) w4 (.slice A3 B[at_.toNat].length c3) B[at_.toNat] := VBF.mono ⟨A3, c3, rfl, v1, v2, v3⟩ (fun b hb => Nat.le_trans hs3 hb)
    have hv5 := hv4.kept (((Kept.refl (fun b => w.heap.size + 4 ≤ b) w4).set (p := ⟨w.heap.size + 1 + 1, 0, none⟩) (by simp) (.slice A3 B[at_.toNat].length c3)).set (p := ⟨w.heap.size + 1 + 1 + 1, 0, none⟩) (by simp) (.int .i64 0))
    have hb5 := bl_set (bl_set (bl_then hBW hb4) (p := ⟨w.heap.size + 1 + 1, 0, none⟩) (by simp; omega) (.slice A3 B[at_.toNat].length c3)) (p := ⟨w.heap.size + 1 + 1 + 1, 0, none⟩) (by simp; omega) (.int .i64 0)
    have hs := set2 k3 k4 (.slice A3 B[at_.toNat].length c3) (.int .i64 0)
    have hK' := ((keepsFrom_below hb4).trans (((KeepsOthers.setCell _ ⟨w.heap.size + 1 + 1, 0, none⟩ (.slice A3 B[at_.toNat].length c3)).from _).trans ((KeepsOthers.setCell _ ⟨w.heap.size + 1 + 1 + 1, 0, none⟩ (.int .i64 0)).from _))).same D _ hD hK rfl
    refine ⟨by simp, .inl ⟨_, _, rfl, run_takeDeferred hK', ?_⟩⟩
    have hg := grownBy_putObj' ((w4.setCell ⟨w.heap.size + 1 + 1, 0, none⟩ (.slice A3 B[at_.toNat].length c3)).setCell ⟨w.heap.size + 1 + 1 + 1, 0, none⟩ (.int .i64 0)) D (.deferred none)
    have hc5 := cell_kept hs.1 hg (fun r e => by cases e; exact ⟨_, hK', rfl⟩)
    have hc6 := cell_kept hs.2 hg (fun r e => by cases e; exact ⟨_, hK', rfl⟩)
    refine ⟨.tuple #[.slice A3 B[at_.toNat].length c3, .int .i64 0], ?_, ⟨_, rfl, ?_⟩, ?_⟩
    · simp [results, Try.f19, go_sem, hc5, hc6]
    · rw [hr]; exact (vbf_grown hv5 hg (fun r e => by cases e; exact ⟨_, hK', rfl⟩)).mono (fun b hb => .inr (by omega))
    · exact hb5.trans (belowK_b (w := w) (Nat.le_refl _) _ D _ _ (by omega) hK' rfl rfl)
  case stop =>
    rintro D c pre W hD ⟨k, hk, rfl⟩ ⟨⟨rfl, ini, last, v, e1, e2, e3, e4, e5, e6⟩, hB1⟩ hK
    gi_wp2
    refine ⟨by simp, .inl ⟨_, _, rfl, run_takeDeferred hK, ?_⟩⟩
    have hg := grownBy_putObj' W D (.deferred none)
    have hc5 := cell_kept e4 hg (fun r e => by cases e; exact ⟨_, hK, rfl⟩)
    have hc6 := cell_kept e5 hg (fun r e => by cases e; exact ⟨_, hK, rfl⟩)
    obtain ⟨k', rfl⟩ : ∃ k', k = k' + 1 := by
      cases k with
      | zero => simp [down] at e1
      | succ k' => exact ⟨k', rfl⟩
    rw [down_succ] at e1
    obtain ⟨rfl, e7⟩ := List.append_inj' e1 rfl
    obtain rfl : P.length - 1 - k' = last := by simpa using e7
    have hr : readTo B P at_ P.length = (pg P (P.length - 1 - k')).2 := by
      rw [readTo_down B P at_ P.length k' (by omega) e2, show P.length - k' = (P.length - 1 - k') + 1 by omega, readTo]
      exact if_pos e3
    obtain ⟨A3, c3, rfl, -, -, -⟩ := id e6
    refine ⟨.tuple #[.slice A3 (pg P (P.length - 1 - k')).2.length c3, .int .i64 0], ?_, ⟨_, rfl, ?_⟩, ?_⟩
    · simp [results, Try.f19, go_sem, hc5, hc6]
    · rw [hr]; exact (vbf_grown e6 hg (fun r e => by cases e; exact ⟨_, hK, rfl⟩)).mono (fun b hb => .inr (by omega))
    · exact hB1.trans (belowK_b (w := w) (Nat.le_refl _) W D _ _ (by omega) hK rfl rfl)

set_option maxRecDepth 100000 in
set_option maxHeartbeats 2000000 in
theorem dread_any (φ : Nat → Prop) (AB : Option Addr) (cb : Nat) (AP : Option Addr) (cp : Nat) (f at_ : Int) (w : World) (B : List (List UInt8)) (P : List PutD) (hB : RBBF φ w AB B) (hP : RPF φ w AP P) (hlB : B.length ≤ 140737488351232) (hlP : P.length ≤ 140737488351232) :
    Calls Try.prog 19 #[.agg #[.slice AB B.length cb, .slice AP P.length cp, .int .i64 f], .int .i64 at_] w fun e w' =>
      (∃ v, e = .returned (.tuple #[v, .int .i64 (readE B f at_)]) ∧ VBF (fun b => φ b ∨ w.heap.size ≤ b) w' v (readB B P f at_)) ∧ Below w.heap.size w w' := by
  by_cases h1 : 0 ≤ at_ ∧ at_ < B.length
  · cases h2 : f == 0
    · have hE : readE B f at_ = 0 := by unfold readE; rw [if_pos h1, if_neg (ne_of_beq_false h2)]
      have hb : readB B P f at_ = readTo B P at_ P.length := by unfold readB; rw [hE]; rfl
      rw [hE, hb]
      exact read_any φ AB cb AP cp f at_ w B P hB hP hlB hlP h1 h2
    · have hE : readE B f at_ = 13 := by unfold readE; rw [if_pos h1, if_pos (eq_of_beq h2)]
      have hb : readB B P f at_ = [] := by unfold readB; rw [hE]; rfl
      rw [hE, hb]
      have hd : decide (0 ≤ at_ ∧ at_ < (B.length : Int)) = true := decide_eq_true h1
      clear hB hP hE hb
      go_enter Try.func19, Try.ntmps19
      go_wp2_with (first | (go_at_call 34; refine (isBlock_any AB B.length cb AP P.length cp f at_ _).mono ?_; rintro e w1 ⟨rfl, hb1⟩; obtain ⟨⟨c1, c2⟩, ⟨c3, c4⟩, f3, f4, hs1⟩ := box4 hb1; have Hb1 := Lib.hid hb1; clear hb1) | (go_at_call 17; refine (off_any AB B.length cb AP P.length cp f _).mono ?_; rintro e w2 ⟨rfl, hb2⟩; obtain ⟨⟨d1, d2⟩, ⟨d3, d4⟩, f3', f4', hs2⟩ := box4 (bl_then Hb1.out hb2); have Hb2 := Lib.hid hb2; clear hb2))
      have hs := set2 d3 d4 (.slice none 0 0) (.int .i64 13)
      refine bodyPost_ret (v := .tuple #[.slice none 0 0, .int .i64 13]) (by simp [results, Try.results19, go_sem, hs.1, hs.2]) rfl ⟨⟨_, rfl, none, 0, rfl, Nat.le_refl _, Nat.zero_le _, .inl rfl⟩, ?_⟩
      exact bl_set (bl_set (bl_then (bl_then (bl_alloc (bl_alloc (bl_alloc (bl_alloc (Below.refl _ w) _) _) _) _) Hb1.out) Hb2.out) (by simp; omega) _) (by simp; omega) _
  · have hE : readE B f at_ = 1 := by unfold readE; rw [if_neg h1]
    have hb : readB B P f at_ = [] := by unfold readB; rw [hE]; rfl
    rw [hE, hb]
    have hd : decide (0 ≤ at_ ∧ at_ < (B.length : Int)) = false := decide_eq_false h1
    clear hB hP hE hb
    go_enter Try.func19, Try.ntmps19
    go_wp2_with (first | (go_at_call 34; refine (isBlock_any AB B.length cb AP P.length cp f at_ _).mono ?_; rintro e w1 ⟨rfl, hb1⟩; obtain ⟨⟨c1, c2⟩, ⟨c3, c4⟩, f3, f4, hs1⟩ := box4 hb1; have Hb1 := Lib.hid hb1; clear hb1))
    have hs := set2 c3 c4 (.slice none 0 0) (.int .i64 1)
    refine bodyPost_ret (v := .tuple #[.slice none 0 0, .int .i64 1]) (by simp [results, Try.results19, go_sem, hs.1, hs.2]) rfl ⟨⟨_, rfl, none, 0, rfl, Nat.le_refl _, Nat.zero_le _, .inl rfl⟩, ?_⟩
    exact bl_set (bl_set (bl_then (bl_alloc (bl_alloc (bl_alloc (bl_alloc (Below.refl _ w) _) _) _) _) Hb1.out) (by simp; omega) _) (by simp; omega) _
end Go.Proofs.Ytkfalgdhpojejaa
