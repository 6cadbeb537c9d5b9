import Derived.Test.YtlcclaicodghcaaCx
namespace Go.Proofs.Ytlcclaicodghcaa
open Go.RowKit
open Go.Proofs.YtlcclaicodghcaaW.PrintLast

/-- What stands while ChunkCuts runs. -/
def CutH (w : World) (v r : Int) (AS : Option Addr) (cS : Nat) (S : List UInt8) (AN : Option Addr) (cN : Nat) (N : List UInt8) (AT : Option Addr) (cT : Nat) (T : List SectD) (x0 x1 x2 : UInt8) (x : World) : Prop := Below w.heap.size w x ∧ x.heap[w.heap.size + 1]? = some (.cells #[.int .i64 v, .slice AS S.length cS, .int .i64 r, .slice AN N.length cN, .slice AT T.length cT] 75 (0, 0)) ∧ x.heap[w.heap.size + 1 + 1]? = some (.cells #[.int .u8 (x0.toNat : Int), .int .u8 (x1.toNat : Int), .int .u8 (x2.toNat : Int)] 100 (0, 0)) ∧ OkH x AS cS S AN cN N AT T
theorem CutH.new {w : World} (v r : Int) (AS : Option Addr) (cS : Nat) (S : List UInt8) (AN : Option Addr) (cN : Nat) (N : List UInt8) (AT : Option Addr) (cT : Nat) (T : List SectD) (cut : Int) (x0 x1 x2 z : UInt8) (h : OkH w AS cS S AN cN N AT T) : CutH w v r AS cS S AN cN N AT cT T x0 x1 x2 (((w.alloc (.cells #[.int .i64 v, .slice AS S.length cS, .int .i64 r, .slice AN N.length cN, .slice AT T.length cT, .int .u16 cut, .int .u8 (x0.toNat : Int), .int .u8 (x1.toNat : Int), .int .u8 (x2.toNat : Int), .int .u8 (z.toNat : Int)] 102)).alloc (.cells #[.int .i64 v, .slice AS S.length cS, .int .i64 r, .slice AN N.length cN, .slice AT T.length cT] 75)).alloc (.cells #[.int .u8 (x0.toNat : Int), .int .u8 (x1.toNat : Int), .int .u8 (x2.toNat : Int)] 100)) := by
  have g0 := bl_alloc (Below.refl w.heap.size w) (.cells #[.int .i64 v, .slice AS S.length cS, .int .i64 r, .slice AN N.length cN, .slice AT T.length cT, .int .u16 cut, .int .u8 (x0.toNat : Int), .int .u8 (x1.toNat : Int), .int .u8 (x2.toNat : Int), .int .u8 (z.toNat : Int)] 102)
  have g1 := bl_alloc (Below.refl _ (w.alloc (.cells #[.int .i64 v, .slice AS S.length cS, .int .i64 r, .slice AN N.length cN, .slice AT T.length cT, .int .u16 cut, .int .u8 (x0.toNat : Int), .int .u8 (x1.toNat : Int), .int .u8 (x2.toNat : Int), .int .u8 (z.toNat : Int)] 102))) (.cells #[.int .i64 v, .slice AS S.length cS, .int .i64 r, .slice AN N.length cN, .slice AT T.length cT] 75)
  have g2 := bl_alloc (Below.refl _ ((w.alloc (.cells #[.int .i64 v, .slice AS S.length cS, .int .i64 r, .slice AN N.length cN, .slice AT T.length cT, .int .u16 cut, .int .u8 (x0.toNat : Int), .int .u8 (x1.toNat : Int), .int .u8 (x2.toNat : Int), .int .u8 (z.toNat : Int)] 102)).alloc (.cells #[.int .i64 v, .slice AS S.length cS, .int .i64 r, .slice AN N.length cN, .slice AT T.length cT] 75))) (.cells #[.int .u8 (x0.toNat : Int), .int .u8 (x1.toNat : Int), .int .u8 (x2.toNat : Int)] 100)
  have e1 := blk_new (w.alloc (.cells #[.int .i64 v, .slice AS S.length cS, .int .i64 r, .slice AN N.length cN, .slice AT T.length cT, .int .u16 cut, .int .u8 (x0.toNat : Int), .int .u8 (x1.toNat : Int), .int .u8 (x2.toNat : Int), .int .u8 (z.toNat : Int)] 102)) #[.int .i64 v, .slice AS S.length cS, .int .i64 r, .slice AN N.length cN, .slice AT T.length cT] 75
  have e2 := blk_new ((w.alloc (.cells #[.int .i64 v, .slice AS S.length cS, .int .i64 r, .slice AN N.length cN, .slice AT T.length cT, .int .u16 cut, .int .u8 (x0.toNat : Int), .int .u8 (x1.toNat : Int), .int .u8 (x2.toNat : Int), .int .u8 (z.toNat : Int)] 102)).alloc (.cells #[.int .i64 v, .slice AS S.length cS, .int .i64 r, .slice AN N.length cN, .slice AT T.length cT] 75)) #[.int .u8 (x0.toNat : Int), .int .u8 (x1.toNat : Int), .int .u8 (x2.toNat : Int)] 100
  rw [size_al, size_al] at e2
  rw [size_al] at e1
  exact ⟨bl_then (bl_then g0 g1) g2, blk_ext g2 (lt_blk e1) e1, e2, ((h.ext g0).ext g1).ext g2⟩
theorem CutH.ext {w : World} {v r : Int} {AS : Option Addr} {cS : Nat} {S : List UInt8} {AN : Option Addr} {cN : Nat} {N : List UInt8} {AT : Option Addr} {cT : Nat} {T : List SectD} {x0 x1 x2 : UInt8} {x y : World} (h : CutH w v r AS cS S AN cN N AT cT T x0 x1 x2 x) (hb : Below x.heap.size x y) : CutH w v r AS cS S AN cN N AT cT T x0 x1 x2 y :=
  ⟨bl_then h.1 hb, blk_ext hb (lt_blk h.2.1) h.2.1, blk_ext hb (lt_blk h.2.2.1) h.2.2.1, h.2.2.2.ext hb⟩
theorem CutH.ha {w : World} {v r : Int} {AS : Option Addr} {cS : Nat} {S : List UInt8} {AN : Option Addr} {cN : Nat} {N : List UInt8} {AT : Option Addr} {cT : Nat} {T : List SectD} {x0 x1 x2 : UInt8} {x : World} (h : CutH w v r AS cS S AN cN N AT cT T x0 x1 x2 x) : OkH x AS cS S AN cN N AT T := h.2.2.2
theorem own_three (W : World) (n : Nat) (hn : n = W.heap.size) (x y z : UInt8) : OwnB (W.alloc (.cells #[.int .u8 (x.toNat : Int), .int .u8 (y.toNat : Int), .int .u8 (z.toNat : Int)] 5)) n (some ⟨n, 0, none⟩) 3 [x, y, z] := by
  subst hn
  exact ⟨World.ownsRow_lit (base := W.heap.size) W #[.int .u8 (x.toNat : Int), .int .u8 (y.toNat : Int), .int .u8 (z.toNat : Int)] 3 (Nat.le_refl _) (by simp [maxLen]) (by simp), by simp⟩
theorem own_set {w : World} {base : Nat} {A : Option Addr} {c : Nat} {bs : List UInt8} (h : OwnB w base A c bs) (h3 : 3 < bs.length) (z : UInt8) :
    ∃ g, A = some ⟨g, 0, none⟩ ∧ base ≤ g ∧ w.cell? ⟨g, 3, none⟩ = some (.int .u8 (bs[3].toNat : Int)) ∧ w.frozen? ⟨g, 3, none⟩ = false ∧ OkB (w.setCell ⟨g, 3, none⟩ (.int .u8 (z.toNat : Int))) A c (bs.set 3 z) := by
  have ok := h.ok
  obtain ⟨b, off, e, hx⟩ := ok.some_ h3
  rcases h.1.2 with ⟨_, h1⟩ | ⟨g, cap, cur, h1, hb, hh, -⟩
  · omega
  · injection h1 with h1 h6 h7
    subst h1
    cases e
    have hx3 := hx 3 h3
    rw [Nat.zero_add] at hx3
    refine ⟨b, rfl, hb, hx3, (blk_facts hh).2.1 3, .inr ⟨b, 0, rfl, fun i hi => ?_⟩, by rw [List.length_set]; exact ok.2.1, by rw [List.length_set]; exact ok.2.2.1, fun e => by cases e⟩
    rw [List.length_set] at hi
    by_cases e3 : i = 3
    · subst e3
      rw [Nat.zero_add, World.cell?_setCell_same _ _ _ hx3]; simp
    · rw [World.cell?_setCell_other _ _ _ _ (by intro e; have e9 := congrArg Addr.off e; simp at e9; omega), hx i hi, List.getElem_set_ne (by omega)]
theorem rb_three {w : World} {g : Nat} {x0 x1 x2 : UInt8} (h : w.heap[g]? = some (.cells #[.int .u8 (x0.toNat : Int), .int .u8 (x1.toNat : Int), .int .u8 (x2.toNat : Int)] 100 (0, 0))) : RB w (some ⟨g, 0, none⟩) [x0, x1, x2] := by
  refine .inr ⟨g, 0, rfl, fun i hi => ?_⟩
  rw [Nat.zero_add, cell_blk h]
  match i, hi with
  | 0, _ => rfl
  | 1, _ => rfl
  | 2, _ => rfl

set_option maxRecDepth 20000 in
set_option maxHeartbeats 2000000 in
theorem kCuts_any (v r : Int) (AS : Option Addr) (cS : Nat) (S : List UInt8) (AN : Option Addr) (cN : Nat) (N : List UInt8) (AT : Option Addr) (cT : Nat) (T : List SectD) (cut : Int) (x0 x1 x2 z : UInt8) (w : World) (hH : OkH w AS cS S AN cN N AT T) (hc1 : 0 ≤ cut) (hc2 : cut ≤ 65535) : Calls Try.prog 18 #[.agg #[.int .i64 v, .slice AS S.length cS, .int .i64 r, .slice AN N.length cN, .slice AT T.length cT, .int .u16 cut, .int .u8 (x0.toNat : Int), .int .u8 (x1.toNat : Int), .int .u8 (x2.toNat : Int), .int .u8 (z.toNat : Int)]] w fun e w' => e = .returned (.bool true) ∧ Below w.heap.size w w' := by
  cases hf : fewH S N T 1048576
  · replace hf := Lib.hid hf
    have k := Lib.hid (CutH.new v r AS cS S AN cN N AT cT T cut x0 x1 x2 z hH)
    replace hH := Lib.hid hH
    go_enter Try.func18, Try.ntmps18
    go_wp2_with fail
    refine (shown17 _).mono ?_; rintro e w1 ⟨rfl, hb⟩
    replace k := Lib.hid (k.out.ext hb)
    clear hb
    have ca := (blk_facts k.out.2.1).1
    go_wp2_with fail
    refine (few_any v r AS cS S AN cN N AT cT T 1048576 _ k.out.ha false hf.out).mono ?_; rintro e w2 ⟨rfl, hb⟩
    clear ca
    replace k := Lib.hid (k.out.ext hb)
    clear hb
    have ca := (blk_facts k.out.2.1).1
    go_wp2_with fail
    go_ret
    exact ⟨rfl, k.out.1⟩
  cases hr : rightH v S r N T
  · replace hf := Lib.hid hf; replace hr := Lib.hid hr
    have k := Lib.hid (CutH.new v r AS cS S AN cN N AT cT T cut x0 x1 x2 z hH)
    replace hH := Lib.hid hH
    go_enter Try.func18, Try.ntmps18
    go_wp2_with fail
    refine (shown17 _).mono ?_; rintro e w1 ⟨rfl, hb⟩
    replace k := Lib.hid (k.out.ext hb)
    clear hb
    have ca := (blk_facts k.out.2.1).1
    go_wp2_with fail
    refine (few_any v r AS cS S AN cN N AT cT T 1048576 _ k.out.ha true hf.out).mono ?_; rintro e w2 ⟨rfl, hb⟩
    clear ca
    replace k := Lib.hid (k.out.ext hb)
    clear hb
    have ca := (blk_facts k.out.2.1).1
    go_wp2_with fail
    refine (rright_any v r AS cS S AN cN N AT cT T _ k.out.ha false hr.out).mono ?_; rintro e w3 ⟨rfl, hb⟩
    clear ca
    replace k := Lib.hid (k.out.ext hb)
    clear hb
    have ca := (blk_facts k.out.2.1).1
    go_wp2_with fail
    go_ret
    exact ⟨rfl, k.out.1⟩
  obtain ⟨q, rfl⟩ : ∃ q : Nat, cut = (q : Int) := ⟨cut.toNat, by omega⟩
  obtain ⟨hE, hLh, h38⟩ := writeL_right hr
  have hl1 : (writeL v S r N T).length ≤ 100000 := writeL_len
  have rc := fun j => read_cut hr (k := j)
  have ro := read_other hr x0 x1 x2
  have rv := read_version hr z
  rw [← hLh] at rc ro rv
  obtain ⟨L, hL⟩ : ∃ z, writeL v S r N T = z := ⟨_, rfl⟩
  rw [hL] at rc ro rv h38 hl1
  have p1 : 0 < L.length := by omega
  have r1 := Nat.mod_lt q p1
  obtain ⟨J, hJ⟩ : ∃ J, q % L.length = J := ⟨_, rfl⟩
  have u1 : (q : Int) % (L.length : Int) = (J : Int) := by rw [← hJ]; simp
  rw [hJ] at r1; replace hJ := Lib.hid hJ
  have n1 : ((L.length : Int) == 0) = false := by rw [beq_eq_false_iff_ne]; omega
  replace rc := Lib.hid (rc J r1); replace ro := Lib.hid ro; replace rv := Lib.hid rv
  replace hf := Lib.hid hf; replace hr := Lib.hid hr; replace hE := Lib.hid hE; replace hL := Lib.hid hL
  clear hLh
  obtain ⟨i0, hi, hz0, hz1, hz2⟩ := info_parts info5
  have k := Lib.hid (CutH.new v r AS cS S AN cN N AT cT T (q : Int) x0 x1 x2 z hH)
  replace hH := Lib.hid hH
  go_enter Try.func18, Try.ntmps18
  go_wp2_with fail
  refine (shown17 _).mono ?_; rintro e w1 ⟨rfl, hb⟩
  replace k := Lib.hid (k.out.ext hb)
  clear hb
  have ca := (blk_facts k.out.2.1).1
  go_wp2_with fail
  refine (few_any v r AS cS S AN cN N AT cT T 1048576 _ k.out.ha true hf.out).mono ?_; rintro e w2 ⟨rfl, hb⟩
  clear ca
  replace k := Lib.hid (k.out.ext hb)
  clear hb
  have ca := (blk_facts k.out.2.1).1
  go_wp2_with fail
  refine (rright_any v r AS cS S AN cN N AT cT T _ k.out.ha true hr.out).mono ?_; rintro e w3 ⟨rfl, hb⟩
  clear ca
  replace k := Lib.hid (k.out.ext hb)
  clear hb
  have ca := (blk_facts k.out.2.1).1
  go_wp2_with fail
  refine (c_write v r AS cS S AN cN N AT cT T 0 L _ k.out.ha hE.out hL.out).mono ?_; rintro e w4 ⟨⟨A1, c1, rfl, o1⟩, hb⟩
  clear ca
  replace o1 := Lib.hid o1.ok
  replace k := Lib.hid (k.out.ext hb)
  clear hb
  obtain ⟨bk, off, eA, -⟩ := o1.out.some_ p1; subst eA
  have z1 := o1.out.2.1
  have zJ : J ≤ c1 := by omega
  go_wp2_with fail
  obtain ⟨b1, b2, b3, b4, b5, b6⟩ := read_bad (b := L.take J) (by rw [rc.out]; decide)
  refine (c_readN (some ⟨bk, off, none⟩) c1 (L.take J) _ (o1.out.take J) (by rw [List.length_take]; omega) J (by rw [List.length_take]; omega) 3 0 0 0 [] [] [] rc.out b1 b3 b6 b2 b4 b5).mono ?_
  rintro e w5 ⟨⟨AS5, cS5, AN5, cN5, AT5, cT5, rfl, -⟩, hb⟩
  clear b1 b2 b3 b4 b5 b6
  replace o1 := Lib.hid (o1.out.ext hb)
  replace k := Lib.hid (k.out.ext hb)
  clear hb
  have hb := bl_alloc (Below.refl _ w5) (.cells #[.int .i64 0, .slice AS5 0 cS5, .int .i64 0, .slice AN5 0 cN5, .slice AT5 0 cT5] 75)
  replace o1 := Lib.hid (o1.out.ext hb)
  replace k := Lib.hid (k.out.ext hb)
  clear hb
  go_wp2_with fail
  have hc13 : ¬ c1 = 3 := by omega
  have h3L : 3 ≤ L.length := by omega
  have h3c : 3 ≤ c1 := by omega
  have h3I : (3 : Int) ≤ (L.length : Int) := by omega
  go_cut [13] (fun s13 wx => ∃ A6 c6 M, Hid (M = [x0, x1, x2] ++ L.drop 3) ∧ s13 = .slice A6 (List.length M) c6 ∧ OkB wx A6 c6 M ∧ CutH w v r AS cS S AN cN N AT cT T x0 x1 x2 wx ∧ OkB wx (some ⟨bk, off, none⟩) c1 L)
  case first =>
    replace k := k.out.ext (bl_drew (Below.refl _ _)); replace o1 := o1.out.ext (bl_drew (Below.refl _ _))
    skip
    refine start_ (n := 13) (S := (fun W' => W'.heap[w.heap.size + 1 + 1]? = some (.cells #[.int .u8 (x0.toNat : Int), .int .u8 (x1.toNat : Int), .int .u8 (x2.toNat : Int)] 100 (0, 0)))) (ds := []) #[false, false, false, false, false, false, false, false, false, false, false, false, false] (by kernel_rfl) rfl rfl (k.2.2.1) (fun hHeld => ?_)
    generalize World.drew (w5.alloc (.cells #[.int .i64 0, .slice AS5 0 cS5, .int .i64 0, .slice AN5 0 cN5, .slice AT5 0 cT5] 75)) = X0 at k o1 hHeld ⊢
    have B := Below.refl X0.heap.size X0
    refine take_ (i := 1) (N := some 64) (v := ?_) (a' := ?_) #[false, true, false, false, false, false, false, false, false, false, false, false, false] rfl rfl (by kernel_rfl) (fun _ _ _ h => h) (Or.inl ⟨by rfl, ?_⟩) hHeld ?_ ?_
    rotate_left
    · intro w' s0
      go_simp
      try with_reducible rfl
    rotate_left
    · simp only [Act.put, List.setIfInBounds_toArray, List.set_cons_zero, List.set_cons_succ]
      rfl
    refine take_ (i := 2) (N := some 65) (v := ?_) (a' := ?_) #[false, true, true, false, false, false, false, false, false, false, false, false, false] rfl rfl (by kernel_rfl) (fun _ _ _ h => h) (Or.inl ⟨by rfl, ?_⟩) hHeld ?_ ?_
    rotate_left
    · intro w' s0
      have d0 := cell_blk s0; go_simp
      try with_reducible rfl
    rotate_left
    · simp only [Act.put, List.setIfInBounds_toArray, List.set_cons_zero, List.set_cons_succ]
      rfl
    refine take_ (i := 3) (N := some 66) (v := ?_) (a' := ?_) #[false, true, true, true, false, false, false, false, false, false, false, false, false] rfl rfl (by kernel_rfl) (fun _ _ _ h => h) (Or.inl ⟨by rfl, ?_⟩) hHeld ?_ ?_
    rotate_left
    · intro w' s0
      go_simp
      try with_reducible rfl
    rotate_left
    · simp only [Act.put, List.setIfInBounds_toArray, List.set_cons_zero, List.set_cons_succ]
      rfl
    refine take_ (i := 4) (N := some 67) (v := ?_) (a' := ?_) #[false, true, true, true, true, false, false, false, false, false, false, false, false] rfl rfl (by kernel_rfl) (fun _ _ _ h => h) (Or.inl ⟨by rfl, ?_⟩) hHeld ?_ ?_
    rotate_left
    · intro w' s0
      have d0 := cell_blk s0; go_simp
      try with_reducible rfl
    rotate_left
    · simp only [Act.put, List.setIfInBounds_toArray, List.set_cons_zero, List.set_cons_succ]
      rfl
    refine take_ (i := 5) (N := some 68) (v := ?_) (a' := ?_) #[false, true, true, true, true, true, false, false, false, false, false, false, false] rfl rfl (by kernel_rfl) (fun _ _ _ h => h) (Or.inl ⟨by rfl, ?_⟩) hHeld ?_ ?_
    rotate_left
    · intro w' s0
      go_simp
      try with_reducible rfl
    rotate_left
    · simp only [Act.put, List.setIfInBounds_toArray, List.set_cons_zero, List.set_cons_succ]
      rfl
    refine take_ (i := 6) (N := some 69) (v := ?_) (a' := ?_) #[false, true, true, true, true, true, true, false, false, false, false, false, false] rfl rfl (by kernel_rfl) (fun _ _ _ h => h) (Or.inl ⟨by rfl, ?_⟩) hHeld ?_ ?_
    rotate_left
    · intro w' s0
      have d0 := cell_blk s0; go_simp
      try with_reducible rfl
    rotate_left
    · simp only [Act.put, List.setIfInBounds_toArray, List.set_cons_zero, List.set_cons_succ]
      rfl
    refine take_ (i := 9) (N := some 72) (v := ?_) (a' := ?_) #[false, true, true, true, true, true, true, false, false, true, false, false, false] rfl rfl (by kernel_rfl) (fun _ _ _ h => h) (Or.inl ⟨by rfl, ?_⟩) hHeld ?_ ?_
    rotate_left
    · intro w' s0
      go_simp
      try with_reducible rfl
    rotate_left
    · simp only [Act.put, List.setIfInBounds_toArray, List.set_cons_zero, List.set_cons_succ]
      rfl
    refine take_ (i := 10) (N := some 73) (v := ?_) (a' := ?_) #[false, true, true, true, true, true, true, false, false, true, true, false, false] rfl rfl (by kernel_rfl) (fun _ _ _ h => h) (Or.inl ⟨by rfl, ?_⟩) hHeld ?_ ?_
    rotate_left
    · intro w' s0
      go_simp
      try with_reducible rfl
    rotate_left
    · simp only [Act.put, List.setIfInBounds_toArray, List.set_cons_zero, List.set_cons_succ]
      rfl
    refine two_ (i := 0) (j := 7) (Ni := some 63) (Nj := some 70) #[true, true, true, true, true, true, true, false, false, true, true, false, false] #[false, true, true, true, true, true, true, true, false, true, true, false, false] rfl rfl rfl rfl (by kernel_rfl) (by decide) (by decide) (fun K hK => ?_) (fun K hK => ?_)
    · refine value_ (v := .slice (some ⟨X0.heap.size, 0, none⟩) 0 0) (w1 := X0.alloc (.cells #[] 5)) (by rfl) rfl (by go_simp) ?_
      have oe := (own_empty X0 _ rfl).base_le B.size
      have hb := bl_alloc (Below.refl _ X0) (.cells #[] 5)
      replace B := bl_then B hb
      clear hb
      generalize X0.alloc (.cells #[] 5) = X1 at B oe ⊢
      have S' := blk_ext B (lt_blk k.2.2.1) k.2.2.1
      clear hHeld
      refine hK.out _ _ S' (fun hHeld => ?_)
      clear hK K S'
      refine norm_ (a' := ?_) ?_ ?_
      rotate_left
      · show Act.put _ (some 63) _ = _
        simp only [Act.put, List.setIfInBounds_toArray, List.set_cons_zero, List.set_cons_succ]
        rfl
      refine one_ (i := 7) (N := some 70) #[true, true, true, true, true, true, true, true, false, true, true, false, false] rfl rfl (by kernel_rfl) (by decide) (fun K hK => ?_)
      refine value_ (v := .slice (some ⟨X1.heap.size, 0, none⟩) 3 3) (w1 := X1.alloc (.cells #[.int .u8 (x0.toNat : Int), .int .u8 (x1.toNat : Int), .int .u8 (x2.toNat : Int)] 5)) (by rfl) rfl (by go_simp) ?_
      have o3 := (own_three X1 _ rfl x0 x1 x2).base_le B.size
      have hb := bl_alloc (Below.refl _ X1) (.cells #[.int .u8 (x0.toNat : Int), .int .u8 (x1.toNat : Int), .int .u8 (x2.toNat : Int)] 5)
      replace oe := oe.ext hb
      replace B := bl_then B hb
      clear hb
      generalize X1.alloc (.cells #[.int .u8 (x0.toNat : Int), .int .u8 (x1.toNat : Int), .int .u8 (x2.toNat : Int)] 5) = X2 at B oe o3 ⊢
      have S' := blk_ext B (lt_blk k.2.2.1) k.2.2.1
      clear hHeld
      refine hK.out _ _ S' (fun hHeld => ?_)
      clear hK K S'
      refine norm_ (a' := ?_) ?_ ?_
      rotate_left
      · show Act.put _ (some 70) _ = _
        simp only [Act.put, List.setIfInBounds_toArray, List.set_cons_zero, List.set_cons_succ]
        rfl
      refine one_ (i := 8) (N := some 71) #[true, true, true, true, true, true, true, true, true, true, true, false, false] rfl rfl (by kernel_rfl) (by decide) (fun K hK => ?_)
      refine step_appendB (by rfl) rfl (.tmp 63) (.tmp 70) 22 rfl X0.heap.size i0 Try.underlying22 hi hz0 hz1 hz2 (some ⟨X0.heap.size, 0, none⟩) 0 [] rfl oe (some ⟨X1.heap.size, 0, none⟩) 3 [x0, x1, x2] rfl o3.ok (by simp) B.size ?_
      intro A2 c2 M2 W2 hM2 o2 hg
      replace B := bl_grown B hg (OwnB.low oe (Nat.le_refl _))
      clear hg oe o3
      have S' := blk_ext B (lt_blk k.2.2.1) k.2.2.1
      clear hHeld
      refine hK.out _ _ S' (fun hHeld => ?_)
      clear hK K S'
      refine norm_ (a' := ?_) ?_ ?_
      rotate_left
      · show Act.put _ (some 71) _ = _
        simp only [Act.put, List.setIfInBounds_toArray, List.set_cons_zero, List.set_cons_succ]
        rfl
      refine one_ (i := 11) (N := some 74) #[true, true, true, true, true, true, true, true, true, true, true, true, false] rfl rfl (by kernel_rfl) (by decide) (fun K hK => ?_)
      refine step_appendB (by rfl) rfl (.tmp 71) (.tmp 73) 22 rfl X0.heap.size i0 Try.underlying22 hi hz0 hz1 hz2 A2 c2 M2 rfl o2.out (some ⟨bk, off + 3, none⟩) (c1 - 3) (L.drop 3) (by rw [List.length_drop]; rfl) ((o1.ext B).drop' (by omega)) (by rw [hM2.out, List.length_drop]; simp; omega) B.size ?_
      intro A3 c3 M3 W3 hM3 o3 hg
      replace B := bl_grown B hg (OwnB.low o2.out (Nat.le_refl _))
      clear hg o2
      have S' := blk_ext B (lt_blk k.2.2.1) k.2.2.1
      clear hHeld
      refine hK.out _ _ S' (fun hHeld => ?_)
      clear hK K S'
      refine norm_ (a' := ?_) ?_ ?_
      rotate_left
      · show Act.put _ (some 74) _ = _
        simp only [Act.put, List.setIfInBounds_toArray, List.set_cons_zero, List.set_cons_succ]
        rfl
      refine take_ (i := 12) (N := some 13) (v := ?_) (a' := ?_) #[true, true, true, true, true, true, true, true, true, true, true, true, true] rfl rfl (by kernel_rfl) (fun _ _ _ h => h) (Or.inl ⟨by rfl, ?_⟩) hHeld ?_ ?_
      rotate_left
      · intro w' s0
        go_simp
        try with_reducible rfl
      rotate_left
      · simp only [Act.put, List.setIfInBounds_toArray, List.set_cons_zero, List.set_cons_succ]
        rfl
      refine done_ (by kernel_rfl) ?_
      go_wp2_with fail
      go_meet
      exact ⟨A3, c3, M3, by show _ = _; rw [hM3.out, hM2.out]; rfl, rfl, o3.out.ok, k.ext B, o1.ext B⟩
    · refine value_ (v := .slice (some ⟨X0.heap.size, 0, none⟩) 3 3) (w1 := X0.alloc (.cells #[.int .u8 (x0.toNat : Int), .int .u8 (x1.toNat : Int), .int .u8 (x2.toNat : Int)] 5)) (by rfl) rfl (by go_simp) ?_
      have o3 := (own_three X0 _ rfl x0 x1 x2).base_le B.size
      have hb := bl_alloc (Below.refl _ X0) (.cells #[.int .u8 (x0.toNat : Int), .int .u8 (x1.toNat : Int), .int .u8 (x2.toNat : Int)] 5)
      replace B := bl_then B hb
      clear hb
      generalize X0.alloc (.cells #[.int .u8 (x0.toNat : Int), .int .u8 (x1.toNat : Int), .int .u8 (x2.toNat : Int)] 5) = X1 at B o3 ⊢
      have S' := blk_ext B (lt_blk k.2.2.1) k.2.2.1
      clear hHeld
      refine hK.out _ _ S' (fun hHeld => ?_)
      clear hK K S'
      refine norm_ (a' := ?_) ?_ ?_
      rotate_left
      · show Act.put _ (some 70) _ = _
        simp only [Act.put, List.setIfInBounds_toArray, List.set_cons_zero, List.set_cons_succ]
        rfl
      refine one_ (i := 0) (N := some 63) #[true, true, true, true, true, true, true, true, false, true, true, false, false] rfl rfl (by kernel_rfl) (by decide) (fun K hK => ?_)
      refine value_ (v := .slice (some ⟨X1.heap.size, 0, none⟩) 0 0) (w1 := X1.alloc (.cells #[] 5)) (by rfl) rfl (by go_simp) ?_
      have oe := (own_empty X1 _ rfl).base_le B.size
      have hb := bl_alloc (Below.refl _ X1) (.cells #[] 5)
      replace o3 := o3.ext hb
      replace B := bl_then B hb
      clear hb
      generalize X1.alloc (.cells #[] 5) = X2 at B oe o3 ⊢
      have S' := blk_ext B (lt_blk k.2.2.1) k.2.2.1
      clear hHeld
      refine hK.out _ _ S' (fun hHeld => ?_)
      clear hK K S'
      refine norm_ (a' := ?_) ?_ ?_
      rotate_left
      · show Act.put _ (some 63) _ = _
        simp only [Act.put, List.setIfInBounds_toArray, List.set_cons_zero, List.set_cons_succ]
        rfl
      refine one_ (i := 8) (N := some 71) #[true, true, true, true, true, true, true, true, true, true, true, false, false] rfl rfl (by kernel_rfl) (by decide) (fun K hK => ?_)
      refine step_appendB (by rfl) rfl (.tmp 63) (.tmp 70) 22 rfl X0.heap.size i0 Try.underlying22 hi hz0 hz1 hz2 (some ⟨X1.heap.size, 0, none⟩) 0 [] rfl oe (some ⟨X0.heap.size, 0, none⟩) 3 [x0, x1, x2] rfl o3.ok (by simp) B.size ?_
      intro A2 c2 M2 W2 hM2 o2 hg
      replace B := bl_grown B hg (OwnB.low oe (Nat.le_refl _))
      clear hg oe o3
      have S' := blk_ext B (lt_blk k.2.2.1) k.2.2.1
      clear hHeld
      refine hK.out _ _ S' (fun hHeld => ?_)
      clear hK K S'
      refine norm_ (a' := ?_) ?_ ?_
      rotate_left
      · show Act.put _ (some 71) _ = _
        simp only [Act.put, List.setIfInBounds_toArray, List.set_cons_zero, List.set_cons_succ]
        rfl
      refine one_ (i := 11) (N := some 74) #[true, true, true, true, true, true, true, true, true, true, true, true, false] rfl rfl (by kernel_rfl) (by decide) (fun K hK => ?_)
      refine step_appendB (by rfl) rfl (.tmp 71) (.tmp 73) 22 rfl X0.heap.size i0 Try.underlying22 hi hz0 hz1 hz2 A2 c2 M2 rfl o2.out (some ⟨bk, off + 3, none⟩) (c1 - 3) (L.drop 3) (by rw [List.length_drop]; rfl) ((o1.ext B).drop' (by omega)) (by rw [hM2.out, List.length_drop]; simp; omega) B.size ?_
      intro A3 c3 M3 W3 hM3 o3 hg
      replace B := bl_grown B hg (OwnB.low o2.out (Nat.le_refl _))
      clear hg o2
      have S' := blk_ext B (lt_blk k.2.2.1) k.2.2.1
      clear hHeld
      refine hK.out _ _ S' (fun hHeld => ?_)
      clear hK K S'
      refine norm_ (a' := ?_) ?_ ?_
      rotate_left
      · show Act.put _ (some 74) _ = _
        simp only [Act.put, List.setIfInBounds_toArray, List.set_cons_zero, List.set_cons_succ]
        rfl
      refine take_ (i := 12) (N := some 13) (v := ?_) (a' := ?_) #[true, true, true, true, true, true, true, true, true, true, true, true, true] rfl rfl (by kernel_rfl) (fun _ _ _ h => h) (Or.inl ⟨by rfl, ?_⟩) hHeld ?_ ?_
      rotate_left
      · intro w' s0
        go_simp
        try with_reducible rfl
      rotate_left
      · simp only [Act.put, List.setIfInBounds_toArray, List.set_cons_zero, List.set_cons_succ]
        rfl
      refine done_ (by kernel_rfl) ?_
      go_wp2_with fail
      go_meet
      exact ⟨A3, c3, M3, by show _ = _; rw [hM3.out, hM2.out]; rfl, rfl, o3.out.ok, k.ext B, o1.ext B⟩
  case rest =>
    obtain ⟨A6, c6, M, hM, rfl, o6, k, o1⟩ := hcut
    replace k := Lib.hid k; replace o1 := Lib.hid o1; replace o6 := Lib.hid o6
    have hMl : M.length ≤ 1000000 := by rw [hM.out, List.length_append, List.length_drop]; simp; omega
    obtain ⟨E6, hE6⟩ : ∃ z, readE M = z := ⟨_, rfl⟩
    have q6 : ([x0, x1, x2] = [80, 89, 88] ∧ E6 = 0) ∨ (¬ [x0, x1, x2] = [80, 89, 88] ∧ E6 = 2) := by
      have h := ro.out; rw [← hM.out, hE6] at h
      by_cases e : [x0, x1, x2] = [80, 89, 88]
      · rw [if_pos e] at h; exact .inl ⟨e, h⟩
      · rw [if_neg e] at h; exact .inr ⟨e, h⟩
    replace q6 := Lib.hid q6; replace hE6 := Lib.hid hE6
    go_wp2_with fail
    refine (c_readN A6 c6 M _ o6.out hMl _ rfl E6 _ _ _ _ _ _ hE6.out rfl rfl rfl rfl rfl rfl).mono ?_
    rintro e w7 ⟨⟨AS7, cS7, AN7, cN7, AT7, cT7, rfl, -⟩, hb⟩
    obtain ⟨v7, hv7⟩ : ∃ z, readV M = z := ⟨_, rfl⟩; obtain ⟨r7, hr7⟩ : ∃ z, readR M = z := ⟨_, rfl⟩; obtain ⟨X7, hX7⟩ : ∃ z, readX M = z := ⟨_, rfl⟩
    obtain ⟨a7, ha7⟩ : ∃ z, (readS M).length = z := ⟨_, rfl⟩; obtain ⟨b7, hb7⟩ : ∃ z, (readN M).length = z := ⟨_, rfl⟩; obtain ⟨d7, hd7⟩ : ∃ z, (readT M).length = z := ⟨_, rfl⟩
    rw [hv7, hr7, hX7, ha7, hb7, hd7]
    clear hv7 hr7 hX7 ha7 hb7 hd7 o6 hMl
    replace o1 := Lib.hid (o1.out.ext hb)
    replace k := Lib.hid (k.out.ext hb)
    clear hb
    have hb := bl_alloc (Below.refl _ w7) (.cells #[.int .i64 v7, .slice AS7 a7 cS7, .int .i64 r7, .slice AN7 b7 cN7, .slice AT7 d7 cT7] 75)
    replace o1 := Lib.hid (o1.out.ext hb)
    replace k := Lib.hid (k.out.ext hb)
    clear hb
    have nY := size_al w7 (.cells #[.int .i64 v7, .slice AS7 a7 cS7, .int .i64 r7, .slice AN7 b7 cN7, .slice AT7 d7 cT7] 75)
    obtain ⟨Y, hY⟩ : ∃ Y, w7.alloc (.cells #[.int .i64 v7, .slice AS7 a7 cS7, .int .i64 r7, .slice AN7 b7 cN7, .slice AT7 d7 cT7] 75) = Y := ⟨_, rfl⟩
    rw [hY] at k o1 nY
    have ip := Lib.hid (bl_alloc (Below.refl Y.heap.size Y) (.cells #[] 5))
    have oe := Lib.hid (own_empty Y _ rfl)
    subst hY
    rw [nY] at oe
    replace nY := Lib.hid nY
    go_wp2_with (at_builtin; refine append_any _ rfl (.tmp 81) (.tmp 82) 22 rfl (w7.heap.size + 1) i0 Try.underlying22 hi hz0 hz1 hz2 (some ⟨w7.heap.size + 1, 0, none⟩) 0 [] rfl oe.out (some ⟨bk, off, none⟩) c1 L rfl (o1.out.ext ip.out) (by simp; omega) (by have := ip.out.size; rw [nY.out] at this; exact this) ?_; intro A8 c8 b8 W8 hb8 o8 hg) <;> skip
    have jp := bl_grown ip.out hg (fun g e => by cases e; rw [nY.out]; exact Nat.le_refl _)
    obtain rfl : L = b8 := by rw [hb8.out]; rfl
    obtain ⟨g, rfl, hgb, hc3, hf3, o9⟩ := own_set o8.out (by omega) z
    have js := bl_set jp (p := ⟨g, 3, none⟩) (by rw [nY.out]; exact hgb) (.int .u8 (z.toNat : Int))
    replace k := Lib.hid (k.out.ext js); replace o1 := Lib.hid (o1.out.ext js); replace o9 := Lib.hid o9
    clear oe ip o8 hg jp js hb8
    have h3J : (3 : Int) < (L.length : Int) := by omega
    obtain ⟨E8, hE8⟩ : ∃ y, readE (L.set 3 z) = y := ⟨_, rfl⟩
    have q8 : ((1 : Int) ≤ (z.toNat : Int) ∧ (z.toNat : Int) ≤ 4 ∧ E8 = 0) ∨ (¬ (1 : Int) ≤ (z.toNat : Int) ∧ E8 = 6) ∨ ((1 : Int) ≤ (z.toNat : Int) ∧ ¬ (z.toNat : Int) ≤ 4 ∧ E8 = 6) := by
      have h := rv.out; rw [hE8] at h
      split at h <;> omega
    replace q8 := Lib.hid q8; replace hE8 := Lib.hid hE8
    go_wp2_with fail
    refine (c_readN (some ⟨g, 0, none⟩) c8 (L.set 3 z) _ o9.out (by rw [List.length_set]; omega) L.length (by rw [List.length_set]) E8 _ _ _ _ _ _ hE8.out rfl rfl rfl rfl rfl rfl).mono ?_
    rintro e w9 ⟨⟨AS9, cS9, AN9, cN9, AT9, cT9, rfl, -⟩, hb⟩
    obtain ⟨v9, hv9⟩ : ∃ y, readV (L.set 3 z) = y := ⟨_, rfl⟩; obtain ⟨r9, hr9⟩ : ∃ y, readR (L.set 3 z) = y := ⟨_, rfl⟩; obtain ⟨X9, hX9⟩ : ∃ y, readX (L.set 3 z) = y := ⟨_, rfl⟩
    obtain ⟨a9, ha9⟩ : ∃ y, (readS (L.set 3 z)).length = y := ⟨_, rfl⟩; obtain ⟨b9, hb9⟩ : ∃ y, (readN (L.set 3 z)).length = y := ⟨_, rfl⟩; obtain ⟨d9, hd9⟩ : ∃ y, (readT (L.set 3 z)).length = y := ⟨_, rfl⟩
    rw [hv9, hr9, hX9, ha9, hb9, hd9]
    clear hv9 hr9 hX9 ha9 hb9 hd9 o9 o1 hc3 hf3
    replace k := Lib.hid (k.out.ext hb)
    clear hb
    have hb := bl_alloc (Below.refl _ w9) (.cells #[.int .i64 v9, .slice AS9 a9 cS9, .int .i64 r9, .slice AN9 b9 cN9, .slice AT9 d9 cT9] 75)
    replace k := Lib.hid (k.out.ext hb)
    clear hb
    have cm := (blk_facts k.out.2.2.1).1
    have hst : (convert 22 9 (.slice (some ⟨w.heap.size + 1 + 1, 0, none⟩) 3 3)).run Try.prog (w9.alloc (.cells #[.int .i64 v9, .slice AS9 a9 cS9, .int .i64 r9, .slice AN9 b9 cN9, .slice AT9 d9 cT9] 75)) = .ok (.string (strOf [x0, x1, x2])) (w9.alloc (.cells #[.int .i64 v9, .slice AS9 a9 cS9, .int .i64 r9, .slice AN9 b9 cN9, .slice AT9 d9 cT9] 75)) := run_str (c := 3) (bs := [x0, x1, x2]) Try.underlying22 Try.underlying5 Try.underlying9 (rb_three k.out.2.2.1)
    obtain ⟨em, rfl⟩ | ⟨em, rfl⟩ := q6.out
    · have hq : (strOf [x0, x1, x2]).toList = [80, 89, 88] := by rw [ByteArray.toList_eq]; exact em
      replace em := Lib.hid em
      obtain ⟨y1, y2, rfl⟩ | ⟨y1, rfl⟩ | ⟨y1, y2, rfl⟩ := q8.out
      · go_wp2_with fail
        go_ret
        exact ⟨ret_bool (by first | (simp; done) | (simp; omega) | (simp [hq]; done) | (simp [hq]; omega)), k.out.1⟩
      · go_wp2_with fail
        go_ret
        exact ⟨ret_bool (by first | (simp; done) | (simp; omega) | (simp [hq]; done) | (simp [hq]; omega)), k.out.1⟩
      · go_wp2_with fail
        go_ret
        exact ⟨ret_bool (by first | (simp; done) | (simp; omega) | (simp [hq]; done) | (simp [hq]; omega)), k.out.1⟩
    · have hq : ¬ (strOf [x0, x1, x2]).toList = [80, 89, 88] := by rw [ByteArray.toList_eq]; exact em
      replace em := Lib.hid em
      obtain ⟨y1, y2, rfl⟩ | ⟨y1, rfl⟩ | ⟨y1, y2, rfl⟩ := q8.out
      · go_wp2_with fail
        go_ret
        exact ⟨ret_bool (by first | (simp; done) | (simp; omega) | (simp [hq]; done) | (simp [hq]; omega)), k.out.1⟩
      · go_wp2_with fail
        go_ret
        exact ⟨ret_bool (by first | (simp; done) | (simp; omega) | (simp [hq]; done) | (simp [hq]; omega)), k.out.1⟩
      · go_wp2_with fail
        go_ret
        exact ⟨ret_bool (by first | (simp; done) | (simp; omega) | (simp [hq]; done) | (simp [hq]; omega)), k.out.1⟩
end Go.Proofs.Ytlcclaicodghcaa
