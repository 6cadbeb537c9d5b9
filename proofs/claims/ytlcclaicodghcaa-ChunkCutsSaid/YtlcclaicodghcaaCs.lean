import Derived.Test.YtlcclaicodghcaaCr
import Derived.Test.YtlcclaicodghcaaPi
import Derived.Test.YtlcclaicodghcaaWLast
namespace Go.Proofs.Ytlcclaicodghcaa
open Go.RowKit
open Go.Proofs.YtlcclaicodghcaaW.PrintLast

/-! ### Sections in a call's own memory -/
def SecAt (w : World) (base : Nat) (T : List SectD) (xs : List Value) : Prop :=
  xs.length = 3 * T.length ∧ ∀ i (_ : i < T.length), ∃ A c, xs[i * 3]? = some (.slice A T[i].1.length c) ∧ xs[i * 3 + 1]? = some (.int .i64 T[i].2.1) ∧ xs[i * 3 + 2]? = some (.int .i64 T[i].2.2) ∧ OwnB w base A c T[i].1
theorem strOf_lit (x y : List UInt8) : ((strOf x).toList == y) = (x == y) := by rw [ByteArray.toList_eq]; rfl
theorem SecAt.nil (w : World) (base : Nat) : SecAt w base [] [] := ⟨rfl, fun _ h => absurd h (Nat.not_lt_zero _)⟩
theorem SecAt.map {w w' : World} {base : Nat} {T : List SectD} {xs : List Value} (h : SecAt w base T xs) (k : ∀ A c bs, OwnB w base A c bs → OwnB w' base A c bs) : SecAt w' base T xs := by
  refine ⟨h.1, fun i hi => ?_⟩
  obtain ⟨A, c, h1, h2, h3, h4⟩ := h.2 i hi
  exact ⟨A, c, h1, h2, h3, k _ _ _ h4⟩
theorem SecAt.snoc {w : World} {base : Nat} {T : List SectD} {xs : List Value} (h : SecAt w base T xs) {A : Option Addr} {c : Nat} {s : SectD} (ho : OwnB w base A c s.1) :
    SecAt w base (T ++ [s]) (xs ++ [.slice A s.1.length c, .int .i64 s.2.1, .int .i64 s.2.2]) := by
  have hl := h.1
  refine ⟨by simp [hl]; omega, fun i hi => ?_⟩
  rw [List.length_append, List.length_singleton] at hi
  by_cases e : i < T.length
  · obtain ⟨A', c', h1, h2, h3, h4⟩ := h.2 i e
    rw [List.getElem_append_left e]
    exact ⟨A', c', by rw [List.getElem?_append_left (by omega)]; exact h1, by rw [List.getElem?_append_left (by omega)]; exact h2, by rw [List.getElem?_append_left (by omega)]; exact h3, h4⟩
  · obtain rfl : i = T.length := by omega
    have e0 : T.length * 3 - xs.length = 0 := by omega
    have e1 : T.length * 3 + 1 - xs.length = 1 := by omega
    have e2 : T.length * 3 + 2 - xs.length = 2 := by omega
    rw [List.getElem_append_right (Nat.le_refl _)]
    refine ⟨A, c, ?_, ?_, ?_, ?_⟩
    · rw [List.getElem?_append_right (by omega), e0]; simp
    · rw [List.getElem?_append_right (by omega), e1]; simp
    · rw [List.getElem?_append_right (by omega), e2]; simp
    · simpa using ho
theorem SecAt.rt {w : World} {b1 b2 : Nat} {T : List SectD} {xs : List Value} {A : Option Addr} {c : Nat} (h : SecAt w b1 T xs) (ho : OwnV w b2 98 3 A T.length c xs) : RT w A T := by
  rcases ho.2 with ⟨_, h0⟩ | ⟨g, cap, cur, h1, _⟩
  · exact .inl (List.eq_nil_of_length_eq_zero h0)
  · injection h1 with h1 h6 h7
    subst h1
    refine .inr ⟨g, 0, rfl, fun i hi => ?_⟩
    obtain ⟨A', c', k1, k2, k3, k4⟩ := h.2 i hi
    have key : ∀ j, j < 3 → w.cell? ⟨g, 0 + i * 3 + j, none⟩ = xs[i * 3 + j]? := fun j hj => by
      have := World.ownsRow.cellAt ho (i * 3 + j) (by have := h.1; omega)
      rw [Nat.zero_add, this]
    exact ⟨⟨A', c', (key 0 (by omega)).trans k1, k4.ok⟩, (key 1 (by omega)).trans k2, (key 2 (by omega)).trans k3⟩
/-- A row of bytes is no row of sections. -/
theorem OwnB.far {w w' : World} {base base' : Nat} {A : Option Addr} {c : Nat} {bs : List UInt8} {Ao : Option Addr} {n co : Nat} {xs : List Value} (h : OwnB w base A c bs) (ho : OwnV w base' 98 3 Ao n co xs)
    (hf : ∀ g, (Value.slice Ao n co).ownBlock ≠ some g → g < w.heap.size → w'.heap[g]? = w.heap[g]?) : OwnB w' base A c bs := by
  refine ⟨⟨h.1.1, ?_⟩, h.2⟩
  rcases h.1.2 with h0 | ⟨g', cap, cur, h1, hb, hh, h2⟩
  · exact .inl h0
  · exact .inr ⟨g', cap, cur, h1, hb, (hf g' (OwnV.ne_blk ho hh (by decide)) (lt_blk hh)).trans hh, h2⟩
theorem OwnV.set_far {w : World} {base e size g i : Nat} {A : Option Addr} {n c : Nat} {xs : List Value} (h : OwnV w base e size A n c xs) (hg : g < base) (u : Value) : OwnV (w.setCell ⟨g, i, none⟩ u) base e size A n c xs := by
  refine ⟨h.1, ?_⟩
  rcases h.2 with h0 | ⟨g', cap, cur, h1, hb, hh, h2⟩
  · exact .inl h0
  · exact .inr ⟨g', cap, cur, h1, hb, (Below.heap_setCell w ⟨g, i, none⟩ u g' (show g' ≠ g by omega)).trans hh, h2⟩
theorem blk_set {w : World} {g : Nat} {t : TypeId} {cs : Array Value} (h : w.heap[g]? = some (.cells cs t (0, 0))) (i : Nat) (u : Value) : (w.setCell ⟨g, i, none⟩ u).heap[g]? = some (.cells (cs.setIfInBounds i u) t (0, 0)) := by
  simp [World.setCell, Array.getElem?_modify, h]
theorem blk_far {w : World} {g g' i : Nat} {o : Obj} (h : w.heap[g]? = some o) (hne : g ≠ g') (u : Value) : (w.setCell ⟨g', i, none⟩ u).heap[g]? = some o := (Below.heap_setCell w ⟨g', i, none⟩ u g hne).trans h
theorem blk_facts {w : World} {g : Nat} {t : TypeId} {cs : Array Value} (h : w.heap[g]? = some (.cells cs t (0, 0))) : (∀ o, w.cell? ⟨g, o, none⟩ = cs[o]?) ∧ (∀ o, w.frozen? ⟨g, o, none⟩ = false) ∧ g < w.heap.size :=
  ⟨fun o => cell_blk h o, fun o => by simp [World.frozen?, h], lt_blk h⟩
theorem info98 : (Try.prog.info? 98).map (fun i => (i.zero, i.size, i.bytes)) = some (some (.agg #[.slice none 0 0, .int .i64 0, .int .i64 0]), 3, 40) := by kernel_rfl

/-- What Read answers, and where. -/
def ReadPost (b : List UInt8) (w : World) (e : Ending) (w' : World) : Prop :=
  (∃ AS cS AN cN AT cT, e = .returned (.tuple #[.agg #[.int .i64 (readV b), .slice AS (readS b).length cS, .int .i64 (readR b), .slice AN (readN b).length cN, .slice AT (readT b).length cT], .int .i64 (readX b), .int .i64 (readE b)]) ∧ OkH w' AS cS (readS b) AN cN (readN b) AT (readT b)) ∧ Below w.heap.size w w'
theorem ReadPost.err {b : List UInt8} {w w' : World} {E : Int} (h : readE b = E) (hE : E ≠ 0) (hb : Below w.heap.size w w') :
    ReadPost b w (.returned (.tuple #[.agg #[.int .i64 0, .slice none 0 0, .int .i64 0, .slice none 0 0, .slice none 0 0], .int .i64 0, .int .i64 E])) w' := by
  obtain ⟨h1, h2, h3, h4, h5, h6⟩ := read_bad (b := b) (by rw [h]; exact hE)
  refine ⟨⟨none, 0, none, 0, none, 0, by rw [h1, h2, h3, h4, h5, h6, h]; rfl, ?_⟩, hb⟩
  rw [h2, h4, h5]
  exact ⟨OkB.nil _, OkB.nil _, .inl rfl, Nat.zero_le _⟩
theorem ReadPost.ok {b : List UInt8} {w w' : World} {v r t : Int} {T : List SectD} {AS AN AT : Option Addr} {cS cN cT : Nat} (h : readE b = 0) (hv : verN b = v) (hr : rndN b = r) (hT : restOf b = (0, T, t))
    (hH : OkH w' AS cS (saltB b) AN cN (nonB b) AT T) (hb : Below w.heap.size w w') :
    ReadPost b w (.returned (.tuple #[.agg #[.int .i64 v, .slice AS (saltB b).length cS, .int .i64 r, .slice AN (nonB b).length cN, .slice AT T.length cT], .int .i64 t, .int .i64 0])) w' := by
  obtain ⟨h1, h2, h3, h4, h5, h6⟩ := read_good h
  rw [hT] at h5 h6
  refine ⟨⟨AS, cS, AN, cN, AT, cT, by rw [h1, h2, h3, h4, h5, h6, h, hv, hr], ?_⟩, hb⟩
  rw [h2, h4, h5]
  exact hH
theorem bl_set5 {w W : World} (h : Below w.heap.size w W) (u0 u1 u2 u3 u4 : Value) : Below w.heap.size w (((((W.setCell ⟨w.heap.size, 0, none⟩ u0).setCell ⟨w.heap.size, 1, none⟩ u1).setCell ⟨w.heap.size, 2, none⟩ u2).setCell ⟨w.heap.size, 3, none⟩ u3).setCell ⟨w.heap.size, 4, none⟩ u4) :=
  bl_set (bl_set (bl_set (bl_set (bl_set h (p := ⟨w.heap.size, 0, none⟩) (Nat.le_refl _) u0) (p := ⟨w.heap.size, 1, none⟩) (Nat.le_refl _) u1) (p := ⟨w.heap.size, 2, none⟩) (Nat.le_refl _) u2) (p := ⟨w.heap.size, 3, none⟩) (Nat.le_refl _) u3) (p := ⟨w.heap.size, 4, none⟩) (Nat.le_refl _) u4

set_option maxRecDepth 20000 in
set_option maxHeartbeats 1000000 in
theorem rread_short (A : Option Addr) (c : Nat) (b : List UInt8) (w : World) (h : b.length < 38) : Calls Try.prog 51 #[.slice A b.length c] w (ReadPost b w) := by
  have hE := Lib.hid (readE_short h)
  have G := Lib.hid (bl_alloc (Below.refl w.heap.size w) (.cells #[.int .i64 0, .slice none 0 0, .int .i64 0, .slice none 0 0, .slice none 0 0] 75))
  go_enter Try.func51, Try.ntmps51
  go_wp2_with fail
  exact bodyPost_ret (v := .tuple #[.agg #[.int .i64 0, .slice none 0 0, .int .i64 0, .slice none 0 0, .slice none 0 0], .int .i64 0, .int .i64 3]) (by simp [results, Try.results51, go_sem]) rfl (ReadPost.err hE.out (by decide) G.out)
set_option maxRecDepth 20000 in
set_option maxHeartbeats 1000000 in
theorem rread_mark (A : Option Addr) (c : Nat) (b : List UInt8) (w : World) (hok : OkB w A c b) (h : ¬ b.length < 38) (h2 : ¬ b.take 3 = [80, 89, 88]) : Calls Try.prog 51 #[.slice A b.length c] w (ReadPost b w) := by
  have hE := Lib.hid (readE_mark h h2)
  have G := Lib.hid (bl_alloc (Below.refl w.heap.size w) (.cells #[.int .i64 0, .slice none 0 0, .int .i64 0, .slice none 0 0, .slice none 0 0] 75))
  have hc1 := hok.2.1
  have hc2 := hok.2.2.1
  obtain ⟨bk, off, rfl, hcells⟩ := hok.some_ (k := 0) (by omega)
  have ht := (hok.ext G.out).take 3
  obtain ⟨m3, hm3⟩ : ∃ m, b.take 3 = m := ⟨_, rfl⟩
  have hl3 : m3.length = 3 := by rw [← hm3, List.length_take]; omega
  rw [hm3] at ht h2
  have hrun := run_str (P := Try.prog) (c := c) Try.underlying22 Try.underlying5 Try.underlying9 ht.1
  rw [hl3] at hrun
  have hne : ((strOf m3).toList == [80, 89, 88]) = false := by rw [strOf_lit]; simpa using h2
  clear hm3 hl3 ht h2 hcells hok
  go_enter Try.func51, Try.ntmps51
  go_wp2_with fail
  exact bodyPost_ret (v := .tuple #[.agg #[.int .i64 0, .slice none 0 0, .int .i64 0, .slice none 0 0, .slice none 0 0], .int .i64 0, .int .i64 2]) (by simp [results, Try.results51, go_sem]) rfl (ReadPost.err hE.out (by decide) G.out)
set_option maxRecDepth 20000 in
set_option maxHeartbeats 2000000 in
theorem rread_ver (A : Option Addr) (c : Nat) (b : List UInt8) (w : World) (hok : OkB w A c b) (h : ¬ b.length < 38) (h2 : b.take 3 = [80, 89, 88]) (hv : ¬ (1 ≤ verN b ∧ verN b ≤ 4)) : Calls Try.prog 51 #[.slice A b.length c] w (ReadPost b w) := by
  have hE := Lib.hid (readE_ver h h2 hv)
  have G := Lib.hid (bl_alloc (Below.refl w.heap.size w) (.cells #[.int .i64 0, .slice none 0 0, .int .i64 0, .slice none 0 0, .slice none 0 0] 75))
  have hc1 := hok.2.1
  have hc2 := hok.2.2.1
  obtain ⟨bk, off, rfl, hcells⟩ := (hok.ext G.out).some_ (k := 0) (by omega)
  have ht := (hok.ext G.out).take 3
  obtain ⟨m3, hm3⟩ : ∃ m, b.take 3 = m := ⟨_, rfl⟩
  have hl3 : m3.length = 3 := by rw [← hm3, List.length_take]; omega
  rw [hm3] at ht h2
  have hrun := run_str (P := Try.prog) (c := c) Try.underlying22 Try.underlying5 Try.underlying9 ht.1
  rw [hl3] at hrun
  have hne : ((strOf m3).toList == [80, 89, 88]) = true := by rw [strOf_lit]; simpa using h2
  have hx := hcells 3 (by omega)
  have hvx := tnN_one (b := b) (T := 3) (by omega)
  obtain ⟨x, hxe⟩ : ∃ x, b[3]'(by omega) = x := ⟨_, rfl⟩
  rw [hxe] at hx hvx
  have hvx' : verN b = (x.toNat : Int) := hvx
  rw [hvx'] at hv
  have hx9 : x.toNat < 256 := x.toNat_lt
  have hd : (x.toNat : Int) < 1 ∨ (¬ (x.toNat : Int) < 1 ∧ (4 : Int) < (x.toNat : Int)) := by omega
  clear ht h2 hcells hok hxe hvx hvx' hv hm3 hl3
  rcases hd with hd | ⟨hd, hd'⟩
  · go_enter Try.func51, Try.ntmps51
    go_wp2_with fail
    exact bodyPost_ret (v := .tuple #[.agg #[.int .i64 0, .slice none 0 0, .int .i64 0, .slice none 0 0, .slice none 0 0], .int .i64 0, .int .i64 6]) (by simp [results, Try.results51, go_sem]) rfl (ReadPost.err hE.out (by decide) G.out)
  · go_enter Try.func51, Try.ntmps51
    go_wp2_with fail
    exact bodyPost_ret (v := .tuple #[.agg #[.int .i64 0, .slice none 0 0, .int .i64 0, .slice none 0 0, .slice none 0 0], .int .i64 0, .int .i64 6]) (by simp [results, Try.results51, go_sem]) rfl (ReadPost.err hE.out (by decide) G.out)

set_option maxRecDepth 20000 in
set_option maxHeartbeats 4000000 in
theorem rread_main (A : Option Addr) (c : Nat) (b : List UInt8) (w : World) (hok : OkB w A c b) (hl : b.length ≤ 1000000) (h : ¬ b.length < 38) (h2 : b.take 3 = [80, 89, 88]) (hv : 1 ≤ verN b ∧ verN b ≤ 4) : Calls Try.prog 51 #[.slice A b.length c] w (ReadPost b w) := by
  have G := Lib.hid (bl_alloc (Below.refl w.heap.size w) (.cells #[.int .i64 0, .slice none 0 0, .int .i64 0, .slice none 0 0, .slice none 0 0] 75))
  have h38 : 38 ≤ b.length := by omega
  have hc1 := hok.2.1
  have hok1 := Lib.hid (hok.ext G.out)
  have Hok := Lib.hid hok
  obtain ⟨bk, off, rfl, hcells⟩ := hok1.out.some_ (k := 0) (by omega)
  have ht := hok1.out.take 3
  obtain ⟨m3, hm3⟩ : ∃ m, b.take 3 = m := ⟨_, rfl⟩
  have hl3 : m3.length = 3 := by rw [← hm3, List.length_take]; omega
  have h2' := h2
  rw [hm3] at ht h2'
  have hrun := run_str (P := Try.prog) (c := c) Try.underlying22 Try.underlying5 Try.underlying9 ht.1
  rw [hl3] at hrun
  have hne : ((strOf m3).toList == [80, 89, 88]) = true := by rw [strOf_lit]; simpa using h2'
  have hx := hcells 3 (by omega)
  have hvx := tnN_one (b := b) (T := 3) (by omega)
  obtain ⟨x, hxe⟩ : ∃ x, b[3]'(by omega) = x := ⟨_, rfl⟩
  rw [hxe] at hx hvx
  have hvx' : verN b = (x.toNat : Int) := hvx
  have hx1 : (1 : Int) ≤ (x.toNat : Int) := by rw [← hvx']; exact hv.1
  have hx4 : (x.toNat : Int) ≤ 4 := by rw [← hvx']; exact hv.2
  obtain ⟨-, -, -, -, r, r1, r2, -⟩ := tn_put (b := b) (T := 20) (M := 4) (tnE_ok (by omega) (by omega) (by omega))
  obtain ⟨-, -, -, -, m, m1, m2, -⟩ := tn_put (b := b) (T := 36) (M := 2) (tnE_ok (by omega) (by omega) (by omega))
  have p2 : (256 : Nat) ^ 2 = 65536 := rfl
  rw [p2] at m2
  have hS : OkB w (some ⟨bk, off + 4, none⟩) (c - 4) (saltB b) := by
    have hc := hok.some_ (k := 0) (by omega)
    obtain ⟨_, _, e, hc⟩ := hc
    cases e
    exact OkB.part hc hok.2.2.1 (X := 4) (N := 16) (by omega) _ (fun _ => rfl) _ (by omega)
  have hN : OkB w (some ⟨bk, off + 24, none⟩) (c - 24) (nonB b) := by
    have hc := hok.some_ (k := 0) (by omega)
    obtain ⟨_, _, e, hc⟩ := hc
    cases e
    exact OkB.part hc hok.2.2.1 (X := 24) (N := 12) (by omega) _ (fun _ => rfl) _ (by omega)
  have hS16 : (saltB b).length = 16 := by unfold saltB; simp; omega
  have hN12 : (nonB b).length = 12 := by unfold nonB; simp; omega
  have R1 := Lib.hid r1
  have M1 := Lib.hid m1
  have V1 := Lib.hid hvx'
  have R2 := Lib.hid (tnE_ok (b := b) (T := 20) (M := 4) (by omega) (by omega) (by omega))
  have M2 := Lib.hid (tnE_ok (b := b) (T := 36) (M := 2) (by omega) (by omega) (by omega))
  have HS := Lib.hid hS; have HN := Lib.hid hN; have HS16 := Lib.hid hS16; have HN12 := Lib.hid hN12
  have K0 := Lib.hid (And.intro h (And.intro h2 hv))
  have hc38 : 38 ≤ c := by omega
  have qw : IntKind.i64.wrap (x.toNat : Int) = (x.toNat : Int) := IntWalk.i64_in _ (by omega)
  have q1 : (20 : Int) ≤ (c : Int) := by omega
  have q2 : (36 : Int) ≤ (c : Int) := by omega
  have q3 : ¬ c = 4 := by omega
  have q4 : ¬ c = 24 := by omega
  clear hok ht h2' hm3 hl3 hcells hxe hvx hvx' r1 r2 m1 p2 hS hN hS16 hN12 h h2 hv
  go_enter Try.func51, Try.ntmps51
  go_wp2_with fail
  refine (c_rtakeNum (some ⟨bk, off, none⟩) c b 20 4 (r : Int) _ 0 _ hok1.out R1.out rfl R2.out).mono ?_; rintro e w1 ⟨rfl, rfl⟩
  go_wp2_with fail
  refine (c_rtakeNum (some ⟨bk, off, none⟩) c b 36 2 (m : Int) _ 0 _ hok1.out M1.out rfl M2.out).mono ?_; rintro e w1 ⟨rfl, rfl⟩
  go_wp2_with fail
  go_cut [11] (fun s11 wx => s11 = .pointer (some ⟨w.heap.size + 1, 0, none⟩) ∧ Hid (wx.heap[w.heap.size + 1]? = some (.cells #[.int .i64 (x.toNat : Int), .slice (some ⟨bk, off + 4, none⟩) 16 (c - 4), .int .i64 (r : Int), .slice (some ⟨bk, off + 24, none⟩) 12 (c - 24), .slice none 0 0] 75 (0, 0))) ∧ Hid (wx.heap[w.heap.size]? = some (.cells #[.int .i64 0, .slice none 0 0, .int .i64 0, .slice none 0 0, .slice none 0 0] 75 (0, 0))) ∧ Hid (wx.heap.size = w.heap.size + 2) ∧ Hid (Below w.heap.size w wx))
  case first =>
    refine start_ (n := 12) (S := (fun W' => W'.cell? ⟨bk, off + 3, none⟩ = some (.int .u8 (x.toNat : Int)))) (ds := []) #[false, false, false, false, false, false, false, false, false, false, false, false] (by kernel_rfl) rfl rfl (hx) (fun hHeld => ?_)
    generalize hW0 : (w.alloc (.cells #[.int .i64 0, .slice none 0 0, .int .i64 0, .slice none 0 0, .slice none 0 0] 75)).drew = X0 at hHeld ⊢
    have hX := hHeld
    refine take_ (i := 0) (N := some 50) (v := ?_) (a' := ?_) #[true, false, false, false, false, false, false, false, false, false, false, false] rfl rfl (by kernel_rfl) (fun _ _ _ h => h) (Or.inl ⟨by rfl, ?_⟩) hHeld ?_ ?_
    rotate_left
    · intro w' s0
      go_simp
      try with_reducible rfl
    rotate_left
    · simp only [Act.put, List.setIfInBounds_toArray, List.set_cons_zero, List.set_cons_succ]
      rfl
    refine take_ (i := 1) (N := some 51) (v := ?_) (a' := ?_) #[true, true, false, false, false, false, false, false, false, false, false, false] rfl rfl (by kernel_rfl) (fun _ _ _ h => h) (Or.inl ⟨by rfl, ?_⟩) hHeld ?_ ?_
    rotate_left
    · intro w' s0
      go_simp
      try with_reducible rfl
    rotate_left
    · simp only [Act.put, List.setIfInBounds_toArray, List.set_cons_zero, List.set_cons_succ]
      rfl
    refine take_ (i := 2) (N := some 52) (v := ?_) (a' := ?_) #[true, true, true, false, false, false, false, false, false, false, false, false] rfl rfl (by kernel_rfl) (fun _ _ _ h => h) (Or.inl ⟨by rfl, ?_⟩) hHeld ?_ ?_
    rotate_left
    · intro w' s0
      go_simp
      try with_reducible rfl
    rotate_left
    · simp only [Act.put, List.setIfInBounds_toArray, List.set_cons_zero, List.set_cons_succ]
      rfl
    refine take_ (i := 3) (N := some 53) (v := ?_) (a' := ?_) #[true, true, true, true, false, false, false, false, false, false, false, false] rfl rfl (by kernel_rfl) (fun _ _ _ h => h) (Or.inl ⟨by rfl, ?_⟩) hHeld ?_ ?_
    rotate_left
    · intro w' s0
      go_simp
      try with_reducible rfl
    rotate_left
    · simp only [Act.put, List.setIfInBounds_toArray, List.set_cons_zero, List.set_cons_succ]
      rfl
    refine take_ (i := 4) (N := some 54) (v := ?_) (a' := ?_) #[true, true, true, true, true, false, false, false, false, false, false, false] rfl rfl (by kernel_rfl) (fun _ _ _ h => h) (Or.inl ⟨by rfl, ?_⟩) hHeld ?_ ?_
    rotate_left
    · intro w' s0
      go_simp
      try with_reducible rfl
    rotate_left
    · simp only [Act.put, List.setIfInBounds_toArray, List.set_cons_zero, List.set_cons_succ]
      rfl
    refine take_ (i := 5) (N := some 55) (v := ?_) (a' := ?_) #[true, true, true, true, true, true, false, false, false, false, false, false] rfl rfl (by kernel_rfl) (fun _ _ _ h => h) (Or.inl ⟨by rfl, ?_⟩) hHeld ?_ ?_
    rotate_left
    · intro w' s0
      go_simp
      try with_reducible rfl
    rotate_left
    · simp only [Act.put, List.setIfInBounds_toArray, List.set_cons_zero, List.set_cons_succ]
      rfl
    refine take_ (i := 6) (N := some 56) (v := ?_) (a' := ?_) #[true, true, true, true, true, true, true, false, false, false, false, false] rfl rfl (by kernel_rfl) (fun _ _ _ h => h) (Or.inl ⟨by rfl, ?_⟩) hHeld ?_ ?_
    rotate_left
    · intro w' s0
      go_simp
      try with_reducible rfl
    rotate_left
    · simp only [Act.put, List.setIfInBounds_toArray, List.set_cons_zero, List.set_cons_succ]
      rfl
    refine take_ (i := 7) (N := some 57) (v := ?_) (a' := ?_) #[true, true, true, true, true, true, true, true, false, false, false, false] rfl rfl (by kernel_rfl) (fun _ _ _ h => h) (Or.inl ⟨by rfl, ?_⟩) hHeld ?_ ?_
    rotate_left
    · intro w' s0
      go_simp
      try with_reducible rfl
    rotate_left
    · simp only [Act.put, List.setIfInBounds_toArray, List.set_cons_zero, List.set_cons_succ]
      rfl
    refine take_ (i := 8) (N := some 58) (v := ?_) (a' := ?_) #[true, true, true, true, true, true, true, true, true, false, false, false] rfl rfl (by kernel_rfl) (fun _ _ _ h => h) (Or.inl ⟨by rfl, ?_⟩) hHeld ?_ ?_
    rotate_left
    · intro w' s0
      go_simp
      try with_reducible rfl
    rotate_left
    · simp only [Act.put, List.setIfInBounds_toArray, List.set_cons_zero, List.set_cons_succ]
      rfl
    refine take_ (i := 9) (N := some 59) (v := ?_) (a' := ?_) #[true, true, true, true, true, true, true, true, true, true, false, false] rfl rfl (by kernel_rfl) (fun _ _ _ h => h) (Or.inl ⟨by rfl, ?_⟩) hHeld ?_ ?_
    rotate_left
    · intro w' s0
      go_simp
      try with_reducible rfl
    rotate_left
    · simp only [Act.put, List.setIfInBounds_toArray, List.set_cons_zero, List.set_cons_succ]
      rfl
    refine one_ (i := 10) (N := some 11) #[true, true, true, true, true, true, true, true, true, true, true, false] rfl rfl (by kernel_rfl) (by decide) (fun K hK => ?_)
    refine value_ (v := .pointer (some ⟨X0.heap.size, 0, none⟩)) (w1 := X0.alloc (.cells #[.int .i64 0, .slice none 0 0, .int .i64 0, .slice none 0 0, .slice none 0 0] 75)) (by rfl) rfl (by go_simp) ?_
    have S' := cell_ext (bl_alloc (Below.refl _ _) (.cells #[.int .i64 0, .slice none 0 0, .int .i64 0, .slice none 0 0, .slice none 0 0] 75)) hHeld
    clear hHeld
    refine hK.out _ _ S' (fun hHeld => ?_)
    clear hK K S'
    refine norm_ (a' := ?_) ?_ ?_
    rotate_left
    · show Act.put _ (some 11) _ = _
      simp only [Act.put, List.setIfInBounds_toArray, List.set_cons_zero, List.set_cons_succ]
      rfl
    refine one_ (i := 11) (N := none) #[true, true, true, true, true, true, true, true, true, true, true, true] rfl rfl (by kernel_rfl) (by decide) (fun K hK => ?_)
    refine skip_ (w1 := X0.alloc (.cells #[.int .i64 (x.toNat : Int), .slice (some ⟨bk, off + 4, none⟩) 16 (c - 4), .int .i64 (r : Int), .slice (some ⟨bk, off + 24, none⟩) 12 (c - 24), .slice none 0 0] 75)) (by rfl) rfl (by go_simp) ?_
    refine hK.out _ _ (cell_ext (bl_alloc (Below.refl _ _) (.cells #[.int .i64 (x.toNat : Int), .slice (some ⟨bk, off + 4, none⟩) 16 (c - 4), .int .i64 (r : Int), .slice (some ⟨bk, off + 24, none⟩) 12 (c - 24), .slice none 0 0] 75)) hX) (fun hHeld => ?_)
    clear hK K
    refine done_ (by kernel_rfl) ?_
    go_wp2_with fail
    go_meet
    have hs : X0.heap.size = w.heap.size + 1 := by rw [← hW0]; simp
    have fr0 : X0.heap[w.heap.size]? = some (.cells #[.int .i64 0, .slice none 0 0, .int .i64 0, .slice none 0 0, .slice none 0 0] 75 (0, 0)) := by rw [← hW0]; exact blk_new w _ _
    have hb0 : Below w.heap.size w X0 := by rw [← hW0]; exact bl_drew G.out
    exact ⟨by rw [hs], by show _ = _; rw [← hs]; exact blk_new _ _ _, blk_ext (bl_alloc (Below.refl X0.heap.size X0) _) (by omega) fr0, by show _ = _; rw [size_al]; omega, bl_alloc hb0 _⟩
  case rest =>
    obtain ⟨rfl, fh, fr, hsz, hb0⟩ := hcut
    obtain ⟨i0, hi, hz0, hz1, hz2⟩ := info_parts info98
    rw [← HS16.out, ← HN12.out] at fh
    go_wp2_with fail
    go_loopw [12, 13] (fun t i wr => ∃ k : Nat, k ≤ m ∧ i = .int .i64 k ∧ (∃ T' : Nat, t = .int .i64 T' ∧ (∃ Tl : List SectD, Hid (restT b k = (0, Tl, (T' : Int))) ∧ (∃ AO CO xs, Hid (wr.heap[w.heap.size + 1]? = some (.cells #[.int .i64 (x.toNat : Int), .slice (some ⟨bk, off + 4, none⟩) (saltB b).length (c - 4), .int .i64 (r : Int), .slice (some ⟨bk, off + 24, none⟩) (nonB b).length (c - 24), .slice AO Tl.length CO] 75 (0, 0))) ∧ Hid (OwnV wr (w.heap.size + 2) 98 3 AO Tl.length CO xs) ∧ Hid (SecAt wr (w.heap.size + 2) Tl xs)))) ∧ Hid (wr.heap[w.heap.size]? = some (.cells #[.int .i64 0, .slice none 0 0, .int .i64 0, .slice none 0 0, .slice none 0 0] 75 (0, 0))) ∧ Hid (w.heap.size + 2 ≤ wr.heap.size) ∧ Hid (Below w.heap.size w wr)) (fun _ i _ => m - (intOf i).toNat)
    case atStart => exact ⟨0, Nat.zero_le _, rfl, ⟨38, rfl, [], rfl, none, 0, [], fh, OwnV.nil _ _ _ _, SecAt.nil _ _⟩, fr, by show _ ≤ _; have := hsz.out; omega, hb0⟩
    case round =>
      obtain ⟨k, hk, rfl, ⟨T', rfl, Tl, hT, AO, CO, xs, fh, Ho, Hs⟩, fr, hsz, Hw⟩ := hrel
      obtain ⟨g1, g2, g3, g4, g5, g6, g7⟩ := restT_good h38 k (by rw [hT.out])
      rw [hT.out] at g1 g4
      have hTb : T' ≤ b.length := by have e9 : (T' : Int) = (g3 : Int) := g4; omega
      have hTl : Tl.length = k := g1
      clear g1 g2 g4 g5 g6 g7
      by_cases hp : k < m
      · by_cases hs : sectE b T' = 0
        · obtain ⟨X, x1, -, x3, -⟩ := sect_good hs
          obtain ⟨s, hsV⟩ : ∃ s, sectV b T' = s := ⟨_, rfl⟩
          have hnext := Lib.hid (restT_step hT.out hs)
          rw [hsV, x1] at hnext
          obtain ⟨id, ep, ln⟩ := s
          have hs' := Lib.hid hs; have x1' := Lib.hid x1; have hsV' := Lib.hid hsV
          replace hTl := Lib.hid hTl
          have hTl9 : Tl.length ≤ 65536 := by have := hTl.out; omega
          clear hs x1 hsV
          go_wp2_with fail
          refine (rsect_any (some ⟨bk, off, none⟩) c b T' (id, ep, ln) (X : Int) 0 _ (Hok.out.ext Hw.out) hsV'.out x1'.out hs'.out).mono ?_; rintro e w2 ⟨⟨A1, c1, rfl, o1⟩, hb2⟩
          have fh2 := Lib.hid (blk_ext hb2 (lt_blk fh.out) fh.out)
          have fr2 := Lib.hid (blk_ext hb2 (lt_blk fr.out) fr.out)
          have Ho2 := Lib.hid (OwnV.ext Ho.out hb2)
          have Hs2 := Lib.hid (Hs.out.map fun _ _ _ h => h.ext hb2)
          have o1' := Lib.hid (o1.base_le hsz.out)
          have hsz2 := Lib.hid (Nat.le_trans hsz.out hb2.size)
          have Hw2 := Lib.hid (bl_then Hw.out hb2)
          obtain ⟨hc2, hf2, hz2'⟩ := blk_facts fh2.out
          clear hb2 o1 fh fr Ho Hs hsz Hw
          have ga := bl_alloc (Below.refl w2.heap.size w2) (.cells #[.slice A1 id.length c1, .int .i64 ep, .int .i64 ln] 98)
          have fh3 := Lib.hid (blk_ext ga (lt_blk fh2.out) fh2.out)
          have fr3 := Lib.hid (blk_ext ga (lt_blk fr2.out) fr2.out)
          have Ho3 := Lib.hid (OwnV.ext Ho2.out ga)
          have Hs3 := Lib.hid (Hs2.out.map fun _ _ _ h => h.ext ga)
          have o3 := Lib.hid (o1'.out.ext ga)
          have hsz3 := Lib.hid (Nat.le_trans hsz2.out ga.size)
          have Hw3 := Lib.hid (bl_then Hw2.out ga)
          clear ga
          go_wp2_with (at_builtin; refine append_far _ #[.slice A1 id.length c1, .int .i64 ep, .int .i64 ln] rfl (.tmp 79) (.tmp 81) 73 rfl (w.heap.size + 2) 98 i0 (.agg #[.slice none 0 0, .int .i64 0, .int .i64 0]) 3 40 Try.underlying73 hi hz0 hz1 hz2 rfl (by decide) AO Tl.length CO xs rfl Ho3.out 1 (by rw [size_al]; rfl) rfl (by simp [Value.oneCell']) (by unfold maxLen; omega) (by omega) hsz3.out ?_; intro A4 c4 w4 Ho4 Hb4 hfar; have fh4 := Lib.hid (blk_ext Hb4.out (by omega) fh3.out); have fr4 := Lib.hid (blk_ext Hb4.out (by omega) fr3.out); have Hs4 := Lib.hid (Hs3.out.map fun _ _ _ h => h.far Ho3.out hfar); have o4 := Lib.hid (o3.out.far Ho3.out hfar); clear hfar; obtain ⟨hc4, hf4, hz4⟩ := blk_facts fh4.out)
          have Hw4 := Lib.hid (Hw3.out.trans (Hb4.out.mono (Nat.le_add_right w.heap.size 2)))
          have hTn : (Tl ++ [((id, ep, ln) : SectD)]).length = Tl.length + 1 := by simp
          refine ⟨⟨k + 1, by omega, congrArg (Value.int .i64) (by omega), ⟨X, rfl, Tl ++ [(id, ep, ln)], hnext, A4, c4, xs ++ [.slice A1 id.length c1, .int .i64 ep, .int .i64 ln], ?_, ?_, ?_⟩, ?_, ?_, ?_⟩, by show m - ((k : Int) + 1).toNat < m - ((k : Int)).toNat; omega⟩
          · show _ = _; rw [hTn]; exact blk_set fh4.out 4 _
          · show OwnV _ _ _ _ _ _ _ _; rw [hTn]; exact OwnV.set_far Ho4.out (by omega) _
          · exact (Hs4.out.map fun _ _ _ h => h.set_far (by omega) _).snoc (o4.out.set_far (by omega) _)
          · exact blk_far fr4.out (by omega) _
          · show _ ≤ _; have h1 := lt_blk fh4.out; have h2 : (w4.setCell ⟨w.heap.size + 1, 4, none⟩ (.slice A4 (Tl.length + 1) c4)).heap.size = w4.heap.size := by simp [World.setCell]
            omega
          · exact bl_set Hw4.out (p := ⟨w.heap.size + 1, 4, none⟩) (Nat.le_succ _) _
        · have hro := rest_at M1.out hT.out hp hs
          by_cases hs3 : sectE b T' = 3
          · have hE := Lib.hid (readE_rest3 K0.out.1 K0.out.2.1 K0.out.2.2 (hro.trans hs3))
            replace hs3 := Lib.hid hs3
            go_wp2_with fail
            refine (rsect_any (some ⟨bk, off, none⟩) c b T' _ _ 3 _ (Hok.out.ext Hw.out) rfl rfl hs3.out).mono ?_; rintro e w2 ⟨⟨A1, c1, rfl, -⟩, hb2⟩
            obtain ⟨hcr, hfr, hzr⟩ := blk_facts (blk_ext hb2 (lt_blk fr.out) fr.out)
            have G2 := Lib.hid (bl_then Hw.out hb2)
            clear hb2
            go_wp2_with fail
            exact bodyPost_ret (v := .tuple #[.agg #[.int .i64 0, .slice none 0 0, .int .i64 0, .slice none 0 0, .slice none 0 0], .int .i64 0, .int .i64 3]) (by simp [results, Try.results51, go_sem, hcr, hzr]) rfl (ReadPost.err hE.out (by decide) (bl_alloc (bl_set5 G2.out _ _ _ _ _) _))
          · have hE := Lib.hid (readE_restx K0.out.1 K0.out.2.1 K0.out.2.2 (by rw [hro]; exact hs3) (by rw [hro]; exact hs))
            obtain ⟨E, hEe⟩ : ∃ E, sectE b T' = E := ⟨_, rfl⟩
            rw [hEe] at hs hs3
            have e1 := ne_zero_true hs
            have e2 : (E == 3) = false := by simpa using hs3
            replace hEe := Lib.hid hEe
            go_wp2_with fail
            refine (rsect_any (some ⟨bk, off, none⟩) c b T' _ _ E _ (Hok.out.ext Hw.out) rfl rfl hEe.out).mono ?_; rintro e w2 ⟨⟨A1, c1, rfl, -⟩, hb2⟩
            obtain ⟨hcr, hfr, hzr⟩ := blk_facts (blk_ext hb2 (lt_blk fr.out) fr.out)
            have G2 := Lib.hid (bl_then Hw.out hb2)
            clear hb2
            go_wp2_with fail
            exact bodyPost_ret (v := .tuple #[.agg #[.int .i64 0, .slice none 0 0, .int .i64 0, .slice none 0 0, .slice none 0 0], .int .i64 0, .int .i64 2]) (by simp [results, Try.results51, go_sem, hcr, hzr]) rfl (ReadPost.err hE.out (by decide) (bl_alloc (bl_set5 G2.out _ _ _ _ _) _))
      · have hke : k = m := by omega
        subst hke
        have hro : restOf b = (0, Tl, (T' : Int)) := by unfold restOf; rw [show manyN b = (k : Int) from M1.out, Int.toNat_natCast]; exact hT.out
        have hE0 := readE_rest0 K0.out.1 K0.out.2.1 K0.out.2.2 hro
        rw [V1.out, show rndN b = (r : Int) from R1.out] at hE0
        have hRT := Lib.hid (SecAt.rt Hs.out Ho.out)
        have hT9 : Tl.length ≤ 140737488351232 := by omega
        replace hTl := Lib.hid hTl
        have hH := Lib.hid (show OkH wr (some ⟨bk, off + 4, none⟩) (c - 4) (saltB b) (some ⟨bk, off + 24, none⟩) (c - 24) (nonB b) AO Tl from ⟨HS.out.ext Hw.out, HN.out.ext Hw.out, hRT.out, hT9⟩)
        obtain ⟨hc2, hf2, hz2'⟩ := blk_facts fh.out
        obtain ⟨bR, hbR⟩ : ∃ z, rightH (x.toNat : Int) (saltB b) (r : Int) (nonB b) Tl = z := ⟨_, rfl⟩
        rw [hbR] at hE0
        replace hbR := Lib.hid hbR
        replace hro := Lib.hid hro
        replace hE0 := Lib.hid hE0
        cases bR
        · have hE := Lib.hid (hE0.out.trans (if_neg (by decide)))
          go_wp2_with fail
          refine (rright_any (x.toNat : Int) (r : Int) _ _ (saltB b) _ _ (nonB b) AO CO Tl _ hH.out false hbR.out).mono ?_; rintro e w2 ⟨rfl, hb2⟩
          obtain ⟨hcr, hfr, hzr⟩ := blk_facts (blk_ext hb2 (lt_blk fr.out) fr.out)
          have G2 := Lib.hid (bl_then Hw.out hb2)
          clear hb2
          go_wp2_with fail
          exact bodyPost_ret (v := .tuple #[.agg #[.int .i64 0, .slice none 0 0, .int .i64 0, .slice none 0 0, .slice none 0 0], .int .i64 0, .int .i64 2]) (by simp [results, Try.results51, go_sem, hcr]) rfl (ReadPost.err hE.out (by decide) (bl_set5 G2.out _ _ _ _ _))
        · have hE := Lib.hid (hE0.out.trans (if_pos rfl))
          go_wp2_with fail
          refine (rright_any (x.toNat : Int) (r : Int) _ _ (saltB b) _ _ (nonB b) AO CO Tl _ hH.out true hbR.out).mono ?_; rintro e w2 ⟨rfl, hb2⟩
          obtain ⟨hcr, hfr, hzr⟩ := blk_facts (blk_ext hb2 (lt_blk fr.out) fr.out)
          have G2 := Lib.hid (bl_then Hw.out hb2)
          have Ho2 := Lib.hid (OwnV.ext Ho.out hb2)
          have Hs2 := Lib.hid (Hs.out.map fun _ _ _ h => h.ext hb2)
          have fh2 := blk_ext hb2 (lt_blk fh.out) fh.out
          obtain ⟨hc3, hf3, hz3'⟩ := blk_facts fh2
          clear hb2 fh2
          go_wp2_with fail
          exact bodyPost_ret (v := .tuple #[.agg #[.int .i64 (x.toNat : Int), .slice (some ⟨bk, off + 4, none⟩) (saltB b).length (c - 4), .int .i64 (r : Int), .slice (some ⟨bk, off + 24, none⟩) (nonB b).length (c - 24), .slice AO Tl.length CO], .int .i64 T', .int .i64 0]) (by simp [results, Try.results51, go_sem, hcr]) rfl (ReadPost.ok hE.out V1.out R1.out hro.out ⟨HS.out.ext (bl_set5 G2.out _ _ _ _ _), HN.out.ext (bl_set5 G2.out _ _ _ _ _), SecAt.rt (b1 := w.heap.size + 2) (b2 := w.heap.size + 2) (Hs2.out.map fun _ _ _ h => ((((h.set_far (by omega) _).set_far (by omega) _).set_far (by omega) _).set_far (by omega) _).set_far (by omega) _) (OwnV.set_far (OwnV.set_far (OwnV.set_far (OwnV.set_far (OwnV.set_far Ho2.out (by omega) _) (by omega) _) (by omega) _) (by omega) _) (by omega) _), hT9⟩ (bl_set5 G2.out _ _ _ _ _))
/-- The head that bytes begin with, as the document says. -/
theorem c_rread (A : Option Addr) (c : Nat) (b : List UInt8) (w : World) (hok : OkB w A c b) (hl : b.length ≤ 1000000) : Calls Try.prog 51 #[.slice A b.length c] w (ReadPost b w) := by
  by_cases h : b.length < 38
  · exact rread_short A c b w h
  · by_cases h2 : b.take 3 = [80, 89, 88]
    · by_cases hv : 1 ≤ verN b ∧ verN b ≤ 4
      · exact rread_main A c b w hok hl h h2 hv
      · exact rread_ver A c b w hok h h2 hv
    · exact rread_mark A c b w hok h h2
end Go.Proofs.Ytlcclaicodghcaa
