import Derived.Test.YtlcclaicodghcaaCp
namespace Go.Proofs.Ytlcclaicodghcaa
open Go.RowKit

/-- How many bytes rows have, and one more for each. -/
def longL (l : List (List UInt8)) : Nat := l.flatten.length + l.length
theorem longL_succ {l : List (List UInt8)} {k : Nat} (h : k < l.length) : longL (l.take (k + 1)) = longL (l.take k) + 1 + l[k].length := by
  unfold longL; rw [flat_succ h, List.length_append, List.length_take, List.length_take]; omega
set_option maxRecDepth 20000 in
set_option maxHeartbeats 1000000 in
theorem long_any (A : Option Addr) (c : Nat) (l : List (List UInt8)) (w : World) (hR : RBB w A l) (hl : l.length ≤ 50) (n : Nat) (hn : longL l = n) :
    Calls Try.prog 52 #[.slice A l.length c] w fun e w' => e = .returned (.int .i64 n) ∧ Below w.heap.size w w' := by
  replace hn := Lib.hid hn
  replace hR := Lib.hid hR
  go_enter Try.func52, Try.ntmps52
  go_wp2_with fail
  go_loop [3, 4] (fun s i => ∃ k m : Nat, k ≤ l.length ∧ i = .int .i64 k ∧ s = .int .i64 m ∧ m ≤ 200000000000000 * k ∧ Hid (longL (l.take k) = m)) (fun _ i => l.length - (intOf i).toNat)
  case atStart => exact ⟨0, 0, Nat.zero_le _, rfl, rfl, Nat.zero_le _, rfl⟩
  case round =>
    obtain ⟨k, m, hk, rfl, rfl, hm9, hm⟩ := hrel
    by_cases hp : k < l.length
    · obtain ⟨bk, off, rfl, hcells⟩ := hR.out.some_ hp
      obtain ⟨Ax, cx, hcell, okx⟩ := hcells k hp
      have hs := longL_succ hp
      obtain ⟨x, hx⟩ : ∃ x, l[k] = x := ⟨_, rfl⟩
      rw [hx] at hcell okx hs
      have hx9 := okx.2.2.1
      rw [hm.out] at hs
      replace hs := Lib.hid hs
      clear hcells hx okx
      go_wp2_with fail
      go_round
      case rel => exact ⟨k + 1, m + 1 + x.length, by omega, by go_num, congrArg (Value.int .i64) (by omega), by omega, hs⟩
      case measure => simp [intOf]; omega
    · have hke : k = l.length := by omega
      subst hke
      rw [List.take_length] at hm
      go_wp2_with fail
      go_ret
      exact ⟨ret_int (by rw [← hm.out, hn.out]), Below.refl _ _⟩

set_option maxRecDepth 20000 in
set_option maxHeartbeats 4000000 in
theorem rows_any (A : Option Addr) (c : Nat) (a : List (List UInt8)) (A' : Option Addr) (c' : Nat) (b : List (List UInt8)) (w : World) (hR : RBB w A a) (hR' : RBB w A' b) (ha : a.length ≤ 140737488351232) (v : Bool) (hv : decide (a = b) = v) :
    Calls Try.prog 57 #[.slice A a.length c, .slice A' b.length c'] w fun e w' => e = .returned (.bool v) ∧ Below w.heap.size w w' := by
  replace hR := Lib.hid hR
  replace hR' := Lib.hid hR'
  by_cases hl : a.length = b.length
  · obtain ⟨n, hn⟩ : ∃ n, a.length = n := ⟨_, rfl⟩
    have hn' : b.length = n := by omega
    rw [hn] at ha
    rw [hn, hn']
    clear hl
    replace hn := Lib.hid hn
    replace hn' := Lib.hid hn'
    replace hv := Lib.hid hv
    go_enter Try.func57, Try.ntmps57
    go_wp2_with fail
    go_loopw [5] (fun i wr => ∃ k : Nat, k ≤ n ∧ i = .int .i64 k ∧ Hid (Eqt a b k) ∧ Hid (Below w.heap.size w wr)) (fun i _ => n - (intOf i).toNat)
    case atStart => exact ⟨0, Nat.zero_le _, rfl, Eqt.zero _ _, Below.refl _ _⟩
    case round =>
      obtain ⟨k, hk, rfl, Hr, Hb⟩ := hrel
      by_cases hp : k < n
      · have hpa : k < a.length := by rw [hn.out]; exact hp
        have hpb : k < b.length := by rw [hn'.out]; exact hp
        obtain ⟨bk, off, rfl, hcells⟩ := (hR.out.ext Hb.out).some_ hpa
        obtain ⟨A1, c1, y0, ok1⟩ := hcells k hpa
        obtain ⟨bk', off', rfl, hcells'⟩ := (hR'.out.ext Hb.out).some_ hpb
        obtain ⟨A2, c2, z0, ok2⟩ := hcells' k hpb
        obtain ⟨x, hx⟩ : ∃ x, a[k] = x := ⟨_, rfl⟩
        obtain ⟨y, hy⟩ : ∃ y, b[k] = y := ⟨_, rfl⟩
        rw [hx] at y0 ok1
        rw [hy] at z0 ok2
        have Q1 := Lib.hid ok1
        have Q2 := Lib.hid ok2
        clear hcells hcells' ok1 ok2
        have u1 : (k : Int) < (n : Int) := by omega
        obtain ⟨sm, hsm⟩ : ∃ d, (x == y) = d := ⟨_, rfl⟩
        have Qs := Lib.hid hsm
        cases sm
        · have Hbad : Hid (v = false) := by
            show _ = _
            rw [← hv.out]
            refine decide_eq_false (ne_get hpa hpb ?_)
            rw [hx, hy]; simpa using hsm
          clear hx hy hsm
          go_wp2_with fail
          go_quiet ((go_at_call 24; with_reducible exact quiet_left (c_same A1 c1 x A2 c2 y _ (Q1.out.ext (by repeat (first | exact Below.refl _ _ | apply bl_drewN))) (Q2.out.ext (by repeat (first | exact Below.refl _ _ | apply bl_drewN))) false Qs.out)))
          go_wp2_with fail
          go_ret
          exact ⟨ret_bool Hbad.out.symm, by repeat (first | exact Hb.out | apply bl_drewN)⟩
        · have Hnext : Hid (Eqt a b (k + 1)) := Hr.out.succ hpa hpb (by rw [hx, hy]; simpa using hsm)
          clear hx hy hsm
          go_wp2_with fail
          go_quiet ((go_at_call 24; with_reducible exact quiet_left (c_same A1 c1 x A2 c2 y _ (Q1.out.ext (by repeat (first | exact Below.refl _ _ | apply bl_drewN))) (Q2.out.ext (by repeat (first | exact Below.refl _ _ | apply bl_drewN))) true Qs.out)))
          go_wp2_with fail
          exact ⟨⟨k + 1, by omega, congrArg (Value.int .i64) (by omega), Hnext, by repeat (first | exact Hb.out | apply bl_drewN)⟩, by show n - ((k : Int) + 1).toNat < n - ((k : Int)).toNat; omega⟩
      · have Hend : Hid (v = true) := by
          show _ = _
          rw [← hv.out]
          exact decide_eq_true (Hr.out.eq (by rw [hn.out, hn'.out]) (by rw [hn.out]; omega))
        go_wp2_with fail
        go_ret
        exact ⟨ret_bool Hend.out.symm, Hb.out⟩
  · have Hbad : Hid (v = false) := by
      show _ = _
      rw [← hv]
      exact decide_eq_false (fun e => hl (by rw [e]))
    have e1 : ((a.length : Int) != (b.length : Int)) = true := by simp; omega
    go_enter Try.func57, Try.ntmps57
    go_wp2_with fail
    go_ret
    exact ⟨ret_bool Hbad.out.symm, Below.refl _ _⟩

set_option maxRecDepth 20000 in
set_option maxHeartbeats 4000000 in
/-- How many bytes an archive has. -/
theorem total_any (v r : Int) (AS : Option Addr) (cS : Nat) (S : List UInt8) (AN : Option Addr) (cN : Nat) (N : List UInt8) (AT : Option Addr) (cT : Nat) (T : List SectD) (w : World) (hH : OkH w AS cS S AN cN N AT T) (hT64 : T.length ≤ 64) (hok : rightTo T T.length = true) (n0 : Nat) (hn0 : (writeL v S r N T).length = n0) (hn9 : n0 ≤ 1000000) (m : Nat) (hm : startP T n0 T.length + 32 = m) :
    Calls Try.prog 55 #[.agg #[.int .i64 v, .slice AS S.length cS, .int .i64 r, .slice AN N.length cN, .slice AT T.length cT]] w fun e w' => e = .returned (.int .i64 m) ∧ Below w.heap.size w w' := by
  have g0 := bl_alloc (Below.refl _ w) (.cells #[.int .i64 v, .slice AS S.length cS, .int .i64 r, .slice AN N.length cN, .slice AT T.length cT] 75)
  replace hH := Lib.hid (hH.ext g0)
  have G := Lib.hid g0
  clear g0
  have HRt := Lib.hid hok
  replace hn0 := Lib.hid hn0
  replace hm := Lib.hid hm
  clear hok
  go_enter Try.func55, Try.ntmps55
  go_wp2_with fail
  refine (c_size v r AS cS S AN cN N AT cT T n0 _ hH.out hn0.out).mono ?_; rintro e w1 ⟨rfl, hb1⟩
  have x4 : w1.cell? ⟨w.heap.size, 4, none⟩ = some (.slice AT T.length cT) := box_at hb1 4
  have hT : RT (w.alloc (.cells #[.int .i64 v, .slice AS S.length cS, .int .i64 r, .slice AN N.length cN, .slice AT T.length cT] 75)) AT T := hH.out.2.2.1
  replace hT := Lib.hid (hT.ext hb1)
  have g1 := Lib.hid (bl_then G.out hb1)
  clear hb1
  go_wp2_with fail
  go_loopw [3, 12] (fun a i wr => ∃ k : Nat, k ≤ T.length ∧ i = .int .i64 k ∧ (∃ st : Nat, Hid (startP T n0 k + 32 = st) ∧ a = .int .i64 st) ∧ Hid (Below w1.heap.size w1 wr)) (fun _ i _ => T.length - (intOf i).toNat)
  case atStart => exact ⟨0, Nat.zero_le _, rfl, ⟨n0 + 32, rfl, congrArg (Value.int .i64) (by omega)⟩, Below.refl _ _⟩
  case round =>
    obtain ⟨k, hk, rfl, ⟨st, hst, rfl⟩, Hb⟩ := hrel
    by_cases hp : k < T.length
    · obtain ⟨bk, off, hA, hcells⟩ := (hT.out.ext Hb.out).some_ hp
      subst hA
      obtain ⟨⟨Ax, cx, y0, -⟩, y1, y2⟩ := hcells k hp
      have hok := okS_iff.1 (right_ok HRt.out hp)
      have hLN := lenS_at hp
      obtain ⟨s, hs⟩ : ∃ s, T[k] = s := ⟨_, rfl⟩
      obtain ⟨id, ep, ln⟩ := s
      rw [hs] at y0 y1 y2 hok hLN
      obtain ⟨LN, hLN'⟩ : ∃ z, lenS T k = z := ⟨_, rfl⟩
      have q1 : 1 ≤ ln := hok.2.2.2.1
      have q2 : ln ≤ 1048576 := hok.2.2.2.2
      obtain rfl : ln = (LN : Int) := by rw [hLN'] at hLN; show ln = _; have h9 : LN = ln.toNat := hLN; omega
      have hsl := startP_le T n0 (lenS_le HRt.out) k
      have hst9 : st ≤ 100000000 := by have := hst.out; omega
      have hnx : startP T n0 (k + 1) + 32 = st + LN + 32 * nC LN := by rw [startP, hLN']; have := hst.out; omega
      have hnC : (nC LN : Int) = ((LN : Int) + 255) / 256 := by unfold nC; omega
      have hN9 : nC LN ≤ 4096 := nC_le (by omega)
      replace hnC := Lib.hid hnC
      replace hnx := Lib.hid hnx
      clear hs hLN hok hcells hsl hLN'
      have ga := bl_alloc (Below.refl wr.heap.size wr) (.cells #[.slice Ax id.length cx, .int .i64 ep, .int .i64 (LN : Int)] 98)
      have Hb1 := Lib.hid (bl_then Hb.out ga)
      clear ga
      go_wp2_with fail
      exact ⟨⟨k + 1, by omega, congrArg (Value.int .i64) (by omega), ⟨st + LN + 32 * nC LN, hnx, congrArg (Value.int .i64) (by have := hnC.out; omega)⟩, Hb1⟩, by show T.length - ((k : Int) + 1).toNat < T.length - ((k : Int)).toNat; omega⟩
    · have hke : k = T.length := by omega
      subst hke
      go_wp2_with fail
      go_ret
      exact ⟨ret_int (by rw [← hst.out, hm.out]), bl_then g1.out Hb.out⟩

/-- Pieces that lie in memory. -/
def RP (w : World) (A : Option Addr) (l : List PieceD) : Prop :=
  l = [] ∨ ∃ b off, A = some ⟨b, off, none⟩ ∧ ∀ i (h : i < l.length), w.cell? ⟨b, off + i * 5, none⟩ = some (.int .i64 l[i].1) ∧ w.cell? ⟨b, off + i * 5 + 1, none⟩ = some (.int .i64 l[i].2.1) ∧
    w.cell? ⟨b, off + i * 5 + 2, none⟩ = some (.bool l[i].2.2.1) ∧ w.cell? ⟨b, off + i * 5 + 3, none⟩ = some (.int .i64 l[i].2.2.2.1) ∧ w.cell? ⟨b, off + i * 5 + 4, none⟩ = some (.int .i64 l[i].2.2.2.2)
theorem RP.ext {w w' : World} {A : Option Addr} {l : List PieceD} (h : RP w A l) (hb : Below w.heap.size w w') : RP w' A l := by
  rcases h with h | ⟨b, off, h1, h2⟩
  · exact .inl h
  · refine .inr ⟨b, off, h1, fun i hi => ?_⟩
    obtain ⟨h3, h4, h5, h6, h7⟩ := h2 i hi
    exact ⟨cell_ext hb h3, cell_ext hb h4, cell_ext hb h5, cell_ext hb h6, cell_ext hb h7⟩
theorem RP.some_ {w : World} {A : Option Addr} {l : List PieceD} (h : RP w A l) {k : Nat} (hk : k < l.length) :
    ∃ b off, A = some ⟨b, off, none⟩ ∧ w.cell? ⟨b, off + k * 5, none⟩ = some (.int .i64 l[k].1) ∧ w.cell? ⟨b, off + k * 5 + 1, none⟩ = some (.int .i64 l[k].2.1) ∧
    w.cell? ⟨b, off + k * 5 + 2, none⟩ = some (.bool l[k].2.2.1) ∧ w.cell? ⟨b, off + k * 5 + 3, none⟩ = some (.int .i64 l[k].2.2.2.1) ∧ w.cell? ⟨b, off + k * 5 + 4, none⟩ = some (.int .i64 l[k].2.2.2.2) := by
  rcases h with rfl | ⟨b, off, h1, h2⟩
  · simp at hk
  · exact ⟨b, off, h1, h2 k hk⟩
theorem rowP_at : ∀ (l : List PieceD) (i : Nat) (h : i < l.length) (j : Nat), j < 5 → (rowP l)[i * 5 + j]? = (cellsP l[i])[j]?
  | p :: l, 0, _, j, hj => by
    show (((cellsP p).toList) ++ rowP l)[0 * 5 + j]? = (cellsP p)[j]?
    rw [List.getElem?_append_left (by simp [cellsP]; omega)]; simp
  | p :: l, i + 1, h, j, hj => by
    show (((cellsP p).toList) ++ rowP l)[(i + 1) * 5 + j]? = _
    rw [List.getElem?_append_right (by simp [cellsP]; omega), show (i + 1) * 5 + j - ((cellsP p).toList).length = i * 5 + j by simp [cellsP]; omega]
    exact rowP_at l i (by simpa using h) j hj
theorem OwnV.rp {w : World} {base : Nat} {A : Option Addr} {c : Nat} {l : List PieceD} (h : OwnV w base 94 5 A l.length c (rowP l)) : RP w A l := by
  rcases h.2 with ⟨_, h0⟩ | ⟨g, cap, cur, h1, _⟩
  · exact .inl (List.eq_nil_of_length_eq_zero h0)
  · injection h1 with h1 h6 h7
    subst h1
    refine .inr ⟨g, 0, rfl, fun i hi => ?_⟩
    have key : ∀ j, j < 5 → w.cell? ⟨g, 0 + i * 5 + j, none⟩ = (cellsP l[i])[j]? := fun j hj => by
      have := World.ownsRow.cellAt h (i * 5 + j) (by omega)
      rw [Nat.zero_add, this]
      exact rowP_at l i hi j hj
    exact ⟨key 0 (by omega), key 1 (by omega), key 2 (by omega), key 3 (by omega), key 4 (by omega)⟩

/-- How many bytes pieces have. -/
def lensP (l : List PieceD) : Nat := (l.map fun p => p.2.2.2.2).sum
theorem lensP_snoc (l : List PieceD) (p : PieceD) : lensP (l ++ [p]) = lensP l + p.2.2.2.2 := by simp [lensP]
theorem lensP_app (l l' : List PieceD) : lensP (l ++ l') = lensP l + lensP l' := by simp [lensP]
theorem lensP_chunks (i s a : Nat) : ∀ k, k ≤ nC s → a + lensP (chunksP i s a k) = atP s a k
  | 0, _ => by rw [atP_zero]; rfl
  | k + 1, h => by
    have h1 : k * 256 < s := nC_lt.1 (by omega)
    have ih := lensP_chunks i s a k (by omega)
    rw [chunksP_succ, lensP_snoc, atP_succ h1, ← ih]; simp only [chunkP]; omega
theorem lensP_pieces (T : List SectD) (a : Nat) : ∀ i, a + lensP (piecesP T a i) = startP T a i
  | 0 => rfl
  | i + 1 => by
    have ih := lensP_pieces T a i
    have h := lensP_chunks i (lenS T i) (startP T a i) _ (Nat.le_refl _)
    rw [atP_end] at h
    rw [piecesP, lensP_app, startP]; omega
theorem lensP_take {l : List PieceD} {k : Nat} (h : k < l.length) : lensP (l.take (k + 1)) = lensP (l.take k) + l[k].2.2.2.2 := by
  rw [List.take_succ_eq_append_getElem h, lensP_snoc]
theorem lensP_le (l : List PieceD) (k : Nat) : lensP (l.take k) ≤ lensP l := by
  have := lensP_app (l.take k) (l.drop k)
  rw [List.take_append_drop] at this; omega

set_option maxRecDepth 20000 in
set_option maxHeartbeats 4000000 in
/-- How many bytes an archive has, as the document says. -/
theorem rtotal_any (v r : Int) (AS : Option Addr) (cS : Nat) (S : List UInt8) (AN : Option Addr) (cN : Nat) (N : List UInt8) (AT : Option Addr) (cT : Nat) (T : List SectD) (w : World) (hH : OkH w AS cS S AN cN N AT T) (hR : rightH v S r N T = true) (n0 : Nat) (hn0 : (writeL v S r N T).length = n0) (hn9 : n0 ≤ 1000000) (m : Nat) (hm : startP T n0 T.length + 32 = m) :
    Calls Try.prog 56 #[.agg #[.int .i64 v, .slice AS S.length cS, .int .i64 r, .slice AN N.length cN, .slice AT T.length cT]] w fun e w' => e = .returned (.int .i64 m) ∧ Below w.heap.size w w' := by
  have g0 := bl_alloc (Below.refl _ w) (.cells #[.int .i64 v, .slice AS S.length cS, .int .i64 r, .slice AN N.length cN, .slice AT T.length cT] 75)
  replace hH := Lib.hid (hH.ext g0)
  have G := Lib.hid g0
  clear g0
  have hr := rightH_iff.1 hR
  have hsl := startP_le T n0 (lenS_le hr.2.2.2.2.2.2.2) T.length
  have hlp := piecesP_len T n0 (lenS_le hr.2.2.2.2.2.2.2) T.length
  have T9 : T.length ≤ 64 := hr.2.2.2.2.2.2.1
  have hsum := lensP_pieces T n0 T.length
  replace hR := Lib.hid hR
  clear hr
  obtain ⟨LW, hLW⟩ : ∃ L, writeL v S r N T = L := ⟨_, rfl⟩
  rw [hLW] at hn0
  replace hLW := Lib.hid hLW
  have hn0' := Lib.hid hn0
  obtain ⟨l, hl⟩ : ∃ l, piecesP T n0 T.length = l := ⟨_, rfl⟩
  rw [hl] at hsum hlp
  replace hl := Lib.hid hl
  have hm9 : m ≤ 100000000 := by omega
  have hl9 : l.length ≤ 300000 := by omega
  have hms : Hid (n0 + 32 + lensP l = m) := by show _ = _; omega
  subst hn0
  clear hsum hsl hlp hm
  go_enter Try.func56, Try.ntmps56
  go_wp2_with fail
  refine (c_rwrite v r AS cS S AN cN N AT cT T _ LW _ hH.out rfl hLW.out).mono ?_; rintro e w1 ⟨⟨A1, c1, rfl, o1⟩, hb1⟩
  have x5 : w1.cell? ⟨w.heap.size, 0, none⟩ = some (.int .i64 v) ∧ w1.cell? ⟨w.heap.size, 1, none⟩ = some (.slice AS S.length cS) ∧ w1.cell? ⟨w.heap.size, 2, none⟩ = some (.int .i64 r) ∧ w1.cell? ⟨w.heap.size, 3, none⟩ = some (.slice AN N.length cN) ∧ w1.cell? ⟨w.heap.size, 4, none⟩ = some (.slice AT T.length cT) :=
    ⟨box_at hb1 0, box_at hb1 1, box_at hb1 2, box_at hb1 3, box_at hb1 4⟩
  replace hH := Lib.hid (hH.out.ext hb1)
  have g1 := Lib.hid (bl_then G.out hb1)
  clear hb1 o1
  go_wp2_with fail
  refine (rpieces_any v r AS cS S AN cN N AT cT T _ hH.out hR.out LW.length (by rw [hLW.out]) (by omega)).mono ?_
  rw [hl.out]
  rintro e w2 ⟨⟨A2, c2, rfl, o2⟩, hb2⟩
  have P2 := Lib.hid (OwnV.rp o2)
  have g2 := Lib.hid (bl_then g1.out hb2)
  clear x5 hb2 o2
  go_wp2_with fail
  go_loop [5, 7] (fun a i => ∃ k s : Nat, k ≤ l.length ∧ i = .int .i64 k ∧ Hid (LW.length + 32 + lensP (l.take k) = s) ∧ a = .int .i64 s) (fun _ i => l.length - (intOf i).toNat)
  case atStart => exact ⟨0, LW.length + 32, Nat.zero_le _, rfl, rfl, congrArg (Value.int .i64) (by omega)⟩
  case round =>
    obtain ⟨k, s, hk, rfl, hs, rfl⟩ := hrel
    by_cases hp : k < l.length
    · obtain ⟨bk, off, rfl, -, -, -, -, y4⟩ := P2.out.some_ hp
      have hnx := lensP_take hp
      have hle := lensP_le l (k + 1)
      obtain ⟨p, hpe⟩ : ∃ p, l[k].2.2.2.2 = p := ⟨_, rfl⟩
      rw [hpe] at hnx y4
      have hb : s + p ≤ 100000000 := by have := hs.out; have := hms.out; omega
      have hnx' : Hid (LW.length + 32 + lensP (l.take (k + 1)) = s + p) := by show _ = _; have := hs.out; omega
      clear hnx hpe hle
      go_wp2_with fail
      go_round
      case rel => exact ⟨k + 1, s + p, by omega, by go_num, hnx', congrArg (Value.int .i64) (by omega)⟩
      case measure => simp [intOf]; omega
    · have hke : k = l.length := by omega
      subst hke
      rw [List.take_length] at hs
      go_wp2_with fail
      go_ret
      exact ⟨ret_int (by rw [← hs.out, hms.out]), g2.out⟩
end Go.Proofs.Ytlcclaicodghcaa
