import Derived.Test.YtlcclaicodghcaaCx
namespace Go.Proofs.Ytlcclaicodghcaa
open Go.RowKit
open Go.Proofs.YtlcclaicodghcaaW.PrintLast

set_option maxRecDepth 20000 in
set_option maxHeartbeats 8000000 in
theorem kHeads_any (v r : Int) (AS : Option Addr) (cS : Nat) (S : List UInt8) (AN : Option Addr) (cN : Nat) (N : List UInt8) (AT : Option Addr) (cT : Nat) (T : List SectD) (v1 r1 : Int) (AS1 : Option Addr) (cS1 : Nat) (S1 : List UInt8) (AN1 : Option Addr) (cN1 : Nat) (N1 : List UInt8) (AT1 : Option Addr) (cT1 : Nat) (T1 : List SectD) (w : World) (hH : OkH w AS cS S AN cN N AT T) (hH1 : OkH w AS1 cS1 S1 AN1 cN1 N1 AT1 T1) : Calls Try.prog 17 #[.agg #[.int .i64 v, .slice AS S.length cS, .int .i64 r, .slice AN N.length cN, .slice AT T.length cT], .agg #[.int .i64 v1, .slice AS1 S1.length cS1, .int .i64 r1, .slice AN1 N1.length cN1, .slice AT1 T1.length cT1]] w fun e w' => e = .returned (.bool true) ∧ Below w.heap.size w w' := by
  cases hf : fewH S N T 1048576
  · replace hf := Lib.hid hf
    have k := Lib.hid (TwoH.new v r AS cS S AN cN N AT cT T v1 r1 AS1 cS1 S1 AN1 cN1 N1 AT1 cT1 T1 hH hH1)
    replace hH := Lib.hid hH; replace hH1 := Lib.hid hH1
    go_enter Try.func17, Try.ntmps17
    go_wp2_with fail
    refine (shown17 _).mono ?_; rintro e w1 ⟨rfl, hb⟩
    replace k := Lib.hid (k.out.ext hb)
    clear hb
    have ca := (blk_facts k.out.2.1).1
    have cb := (blk_facts k.out.2.2.1).1
    go_wp2_with fail
    refine (few_any v r AS cS S AN cN N AT cT T 1048576 _ k.out.2.2.2.1 false hf.out).mono ?_; rintro e w2 ⟨rfl, hb⟩
    clear ca cb
    replace k := Lib.hid (k.out.ext hb)
    clear hb
    have ca := (blk_facts k.out.2.1).1
    have cb := (blk_facts k.out.2.2.1).1
    go_wp2_with fail
    go_ret
    exact ⟨rfl, k.out.1⟩
  cases hf1 : fewH S1 N1 T1 1048576
  · replace hf := Lib.hid hf; replace hf1 := Lib.hid hf1
    have k := Lib.hid (TwoH.new v r AS cS S AN cN N AT cT T v1 r1 AS1 cS1 S1 AN1 cN1 N1 AT1 cT1 T1 hH hH1)
    replace hH := Lib.hid hH; replace hH1 := Lib.hid hH1
    go_enter Try.func17, Try.ntmps17
    go_wp2_with fail
    refine (shown17 _).mono ?_; rintro e w1 ⟨rfl, hb⟩
    replace k := Lib.hid (k.out.ext hb)
    clear hb
    have ca := (blk_facts k.out.2.1).1
    have cb := (blk_facts k.out.2.2.1).1
    go_wp2_with fail
    refine (few_any v r AS cS S AN cN N AT cT T 1048576 _ k.out.2.2.2.1 true hf.out).mono ?_; rintro e w2 ⟨rfl, hb⟩
    clear ca cb
    replace k := Lib.hid (k.out.ext hb)
    clear hb
    have ca := (blk_facts k.out.2.1).1
    have cb := (blk_facts k.out.2.2.1).1
    go_wp2_with fail
    refine (few_any v1 r1 AS1 cS1 S1 AN1 cN1 N1 AT1 cT1 T1 1048576 _ k.out.2.2.2.2 false hf1.out).mono ?_; rintro e w2 ⟨rfl, hb⟩
    clear ca cb
    replace k := Lib.hid (k.out.ext hb)
    clear hb
    have ca := (blk_facts k.out.2.1).1
    have cb := (blk_facts k.out.2.2.1).1
    go_wp2_with fail
    go_ret
    exact ⟨rfl, k.out.1⟩
  cases hr : rightH v S r N T
  · replace hf := Lib.hid hf; replace hf1 := Lib.hid hf1; replace hr := Lib.hid hr
    have k := Lib.hid (TwoH.new v r AS cS S AN cN N AT cT T v1 r1 AS1 cS1 S1 AN1 cN1 N1 AT1 cT1 T1 hH hH1)
    replace hH := Lib.hid hH; replace hH1 := Lib.hid hH1
    go_enter Try.func17, Try.ntmps17
    go_wp2_with fail
    refine (shown17 _).mono ?_; rintro e w1 ⟨rfl, hb⟩
    replace k := Lib.hid (k.out.ext hb)
    clear hb
    have ca := (blk_facts k.out.2.1).1
    have cb := (blk_facts k.out.2.2.1).1
    go_wp2_with fail
    refine (few_any v r AS cS S AN cN N AT cT T 1048576 _ k.out.2.2.2.1 true hf.out).mono ?_; rintro e w2 ⟨rfl, hb⟩
    clear ca cb
    replace k := Lib.hid (k.out.ext hb)
    clear hb
    have ca := (blk_facts k.out.2.1).1
    have cb := (blk_facts k.out.2.2.1).1
    go_wp2_with fail
    refine (few_any v1 r1 AS1 cS1 S1 AN1 cN1 N1 AT1 cT1 T1 1048576 _ k.out.2.2.2.2 true hf1.out).mono ?_; rintro e w2 ⟨rfl, hb⟩
    clear ca cb
    replace k := Lib.hid (k.out.ext hb)
    clear hb
    have ca := (blk_facts k.out.2.1).1
    have cb := (blk_facts k.out.2.2.1).1
    go_wp2_with fail
    refine (rright_any v r AS cS S AN cN N AT cT T _ k.out.ha false hr.out).mono ?_; rintro e w3 ⟨rfl, hb⟩
    clear ca cb
    replace k := Lib.hid (k.out.ext hb)
    clear hb
    have ca := (blk_facts k.out.2.1).1
    have cb := (blk_facts k.out.2.2.1).1
    go_wp2_with fail
    go_ret
    exact ⟨rfl, k.out.1⟩
  cases hr1 : rightH v1 S1 r1 N1 T1
  · replace hf := Lib.hid hf; replace hf1 := Lib.hid hf1; replace hr := Lib.hid hr; replace hr1 := Lib.hid hr1
    have k := Lib.hid (TwoH.new v r AS cS S AN cN N AT cT T v1 r1 AS1 cS1 S1 AN1 cN1 N1 AT1 cT1 T1 hH hH1)
    replace hH := Lib.hid hH; replace hH1 := Lib.hid hH1
    go_enter Try.func17, Try.ntmps17
    go_wp2_with fail
    refine (shown17 _).mono ?_; rintro e w1 ⟨rfl, hb⟩
    replace k := Lib.hid (k.out.ext hb)
    clear hb
    have ca := (blk_facts k.out.2.1).1
    have cb := (blk_facts k.out.2.2.1).1
    go_wp2_with fail
    refine (few_any v r AS cS S AN cN N AT cT T 1048576 _ k.out.2.2.2.1 true hf.out).mono ?_; rintro e w2 ⟨rfl, hb⟩
    clear ca cb
    replace k := Lib.hid (k.out.ext hb)
    clear hb
    have ca := (blk_facts k.out.2.1).1
    have cb := (blk_facts k.out.2.2.1).1
    go_wp2_with fail
    refine (few_any v1 r1 AS1 cS1 S1 AN1 cN1 N1 AT1 cT1 T1 1048576 _ k.out.2.2.2.2 true hf1.out).mono ?_; rintro e w2 ⟨rfl, hb⟩
    clear ca cb
    replace k := Lib.hid (k.out.ext hb)
    clear hb
    have ca := (blk_facts k.out.2.1).1
    have cb := (blk_facts k.out.2.2.1).1
    go_wp2_with fail
    refine (rright_any v r AS cS S AN cN N AT cT T _ k.out.ha true hr.out).mono ?_; rintro e w3 ⟨rfl, hb⟩
    clear ca cb
    replace k := Lib.hid (k.out.ext hb)
    clear hb
    have ca := (blk_facts k.out.2.1).1
    have cb := (blk_facts k.out.2.2.1).1
    go_wp2_with fail
    refine (rright_any v1 r1 AS1 cS1 S1 AN1 cN1 N1 AT1 cT1 T1 _ k.out.hb false hr1.out).mono ?_; rintro e w3 ⟨rfl, hb⟩
    clear ca cb
    replace k := Lib.hid (k.out.ext hb)
    clear hb
    have ca := (blk_facts k.out.2.1).1
    have cb := (blk_facts k.out.2.2.1).1
    go_wp2_with fail
    go_ret
    exact ⟨rfl, k.out.1⟩
  obtain ⟨hE, -, h38⟩ := writeL_right hr
  obtain ⟨hE1, -, h381⟩ := writeL_right hr1
  have hsm := fun n h => writes_same hr hr1 (n := n) h
  obtain ⟨Q, hQ⟩ : ∃ z, sameH v S r N T v1 S1 r1 N1 T1 = z := ⟨_, rfl⟩
  have hl1 : (writeL v S r N T).length ≤ 100000 := writeL_len
  have hl2 : (writeL v1 S1 r1 N1 T1).length ≤ 100000 := writeL_len
  obtain ⟨L, hL⟩ : ∃ z, writeL v S r N T = z := ⟨_, rfl⟩
  obtain ⟨M, hM⟩ : ∃ z, writeL v1 S1 r1 N1 T1 = z := ⟨_, rfl⟩
  rw [hL] at h38 hsm hl1; rw [hM] at h381 hsm hl2; rw [hQ] at hsm
  replace hE := Lib.hid hE; replace hE1 := Lib.hid hE1; replace hsm := Lib.hid hsm; replace hL := Lib.hid hL; replace hM := Lib.hid hM; replace hQ := Lib.hid hQ
  replace hf := Lib.hid hf; replace hf1 := Lib.hid hf1; replace hr := Lib.hid hr; replace hr1 := Lib.hid hr1
  have k := Lib.hid (TwoH.new v r AS cS S AN cN N AT cT T v1 r1 AS1 cS1 S1 AN1 cN1 N1 AT1 cT1 T1 hH hH1)
  replace hH := Lib.hid hH; replace hH1 := Lib.hid hH1
  go_enter Try.func17, Try.ntmps17
  go_wp2_with fail
  refine (shown17 _).mono ?_; rintro e w1 ⟨rfl, hb⟩
  replace k := Lib.hid (k.out.ext hb)
  clear hb
  have ca := (blk_facts k.out.2.1).1
  have cb := (blk_facts k.out.2.2.1).1
  go_wp2_with fail
  refine (few_any v r AS cS S AN cN N AT cT T 1048576 _ k.out.2.2.2.1 true hf.out).mono ?_; rintro e w2 ⟨rfl, hb⟩
  clear ca cb
  replace k := Lib.hid (k.out.ext hb)
  clear hb
  have ca := (blk_facts k.out.2.1).1
  have cb := (blk_facts k.out.2.2.1).1
  go_wp2_with fail
  refine (few_any v1 r1 AS1 cS1 S1 AN1 cN1 N1 AT1 cT1 T1 1048576 _ k.out.2.2.2.2 true hf1.out).mono ?_; rintro e w2 ⟨rfl, hb⟩
  clear ca cb
  replace k := Lib.hid (k.out.ext hb)
  clear hb
  have ca := (blk_facts k.out.2.1).1
  have cb := (blk_facts k.out.2.2.1).1
  go_wp2_with fail
  refine (rright_any v r AS cS S AN cN N AT cT T _ k.out.ha true hr.out).mono ?_; rintro e w3 ⟨rfl, hb⟩
  clear ca cb
  replace k := Lib.hid (k.out.ext hb)
  clear hb
  have ca := (blk_facts k.out.2.1).1
  have cb := (blk_facts k.out.2.2.1).1
  go_wp2_with fail
  refine (rright_any v1 r1 AS1 cS1 S1 AN1 cN1 N1 AT1 cT1 T1 _ k.out.hb true hr1.out).mono ?_; rintro e w3 ⟨rfl, hb⟩
  clear ca cb
  replace k := Lib.hid (k.out.ext hb)
  clear hb
  have ca := (blk_facts k.out.2.1).1
  have cb := (blk_facts k.out.2.2.1).1
  go_wp2_with fail
  refine (c_write v r AS cS S AN cN N AT cT T 0 L _ k.out.ha hE.out hL.out).mono ?_; rintro e w4 ⟨⟨A1, c1, rfl, o1⟩, hb⟩
  clear ca cb
  replace o1 := Lib.hid o1.ok
  replace k := Lib.hid (k.out.ext hb)
  clear hb
  have ca := (blk_facts k.out.2.1).1
  have cb := (blk_facts k.out.2.2.1).1
  go_wp2_with fail
  refine (c_write v1 r1 AS1 cS1 S1 AN1 cN1 N1 AT1 cT1 T1 0 M _ k.out.hb hE1.out hM.out).mono ?_; rintro e w5 ⟨⟨A2, c2, rfl, o2⟩, hb⟩
  clear ca cb
  replace o2 := Lib.hid o2.ok
  replace o1 := Lib.hid (o1.out.ext hb)
  replace k := Lib.hid (k.out.ext hb)
  clear hb
  obtain ⟨ad1, rfl⟩ := ok_ad o1.out (by omega)
  obtain ⟨ad2, rfl⟩ := ok_ad o2.out (by omega)
  have z1 := o1.out.2.1
  have z2 := o2.out.2.1
  have p38 : (38 : Int) ≤ (L.length : Int) := by omega
  obtain ⟨n, hn⟩ : ∃ n, min L.length M.length = n := ⟨_, rfl⟩
  have n1 : n ≤ L.length := by omega
  have n2 : n ≤ M.length := by omega
  have nc1 : n ≤ c1 := by omega
  have nc2 : n ≤ c2 := by omega
  have hnI : min (L.length : Int) (M.length : Int) = (n : Int) := by omega
  replace hn := Lib.hid hn
  go_wp2_with fail
  replace o1 := o1.out; replace o2 := o2.out; replace k := k.out
  replace o1 := o1.ext (bl_drew (Below.refl _ _)); replace o2 := o2.ext (bl_drew (Below.refl _ _)); replace k := k.ext (bl_drew (Below.refl _ _))
  refine start_ (n := 37) (S := (fun W' => W'.heap[w.heap.size]? = some (.cells #[.int .i64 v, .slice AS S.length cS, .int .i64 r, .slice AN N.length cN, .slice AT T.length cT] 75 (0, 0)) ∧ W'.heap[w.heap.size + 1]? = some (.cells #[.int .i64 v1, .slice AS1 S1.length cS1, .int .i64 r1, .slice AN1 N1.length cN1, .slice AT1 T1.length cT1] 75 (0, 0)))) (ds := []) #[false, false, false, false, false, false, false, false, false, false, false, false, false, false, false, false, false, false, false, false, false, false, false, false, false, false, false, false, false, false, false, false, false, false, false, false, false] (by kernel_rfl) rfl rfl (And.intro k.2.1 k.2.2.1) (fun hHeld => ?_)
  refine take_ (i := 0) (N := some 46) (v := ?_) (a' := ?_) #[true, false, false, false, false, false, false, false, false, false, false, false, false, false, false, false, false, false, false, false, false, false, false, false, false, false, false, false, false, false, false, false, false, false, false, false, false] rfl rfl (by kernel_rfl) (fun _ _ _ h => h) (Or.inl ⟨by rfl, ?_⟩) hHeld ?_ ?_
  rotate_left
  · rintro w' ⟨s0, s1⟩
    go_simp
    try with_reducible rfl
  rotate_left
  · simp only [Act.put, List.setIfInBounds_toArray, List.set_cons_zero, List.set_cons_succ]
    rfl
  refine take_ (i := 1) (N := some 47) (v := ?_) (a' := ?_) #[true, true, false, false, false, false, false, false, false, false, false, false, false, false, false, false, false, false, false, false, false, false, false, false, false, false, false, false, false, false, false, false, false, false, false, false, false] rfl rfl (by kernel_rfl) (fun _ _ _ h => h) (Or.inl ⟨by rfl, ?_⟩) hHeld ?_ ?_
  rotate_left
  · rintro w' ⟨s0, s1⟩
    go_simp
    try with_reducible rfl
  rotate_left
  · simp only [Act.put, List.setIfInBounds_toArray, List.set_cons_zero, List.set_cons_succ]
    rfl
  refine take_ (i := 2) (N := some 48) (v := ?_) (a' := ?_) #[true, true, true, false, false, false, false, false, false, false, false, false, false, false, false, false, false, false, false, false, false, false, false, false, false, false, false, false, false, false, false, false, false, false, false, false, false] rfl rfl (by kernel_rfl) (fun _ _ _ h => h) (Or.inl ⟨by rfl, ?_⟩) hHeld ?_ ?_
  rotate_left
  · rintro w' ⟨s0, s1⟩
    go_simp
    try with_reducible rfl
  rotate_left
  · simp only [Act.put, List.setIfInBounds_toArray, List.set_cons_zero, List.set_cons_succ]
    rfl
  refine take_ (i := 3) (N := some 49) (v := ?_) (a' := ?_) #[true, true, true, true, false, false, false, false, false, false, false, false, false, false, false, false, false, false, false, false, false, false, false, false, false, false, false, false, false, false, false, false, false, false, false, false, false] rfl rfl (by kernel_rfl) (fun _ _ _ h => h) (Or.inl ⟨by rfl, ?_⟩) hHeld ?_ ?_
  rotate_left
  · rintro w' ⟨s0, s1⟩
    go_simp
    try with_reducible rfl
  rotate_left
  · simp only [Act.put, List.setIfInBounds_toArray, List.set_cons_zero, List.set_cons_succ]
    rfl
  refine take_ (i := 4) (N := some 50) (v := ?_) (a' := ?_) #[true, true, true, true, true, false, false, false, false, false, false, false, false, false, false, false, false, false, false, false, false, false, false, false, false, false, false, false, false, false, false, false, false, false, false, false, false] rfl rfl (by kernel_rfl) (fun _ _ _ h => h) (Or.inl ⟨by rfl, ?_⟩) hHeld ?_ ?_
  rotate_left
  · rintro w' ⟨s0, s1⟩
    go_simp
    try with_reducible rfl
  rotate_left
  · simp only [Act.put, List.setIfInBounds_toArray, List.set_cons_zero, List.set_cons_succ]
    rfl
  refine take_ (i := 5) (N := some 51) (v := ?_) (a' := ?_) #[true, true, true, true, true, true, false, false, false, false, false, false, false, false, false, false, false, false, false, false, false, false, false, false, false, false, false, false, false, false, false, false, false, false, false, false, false] rfl rfl (by kernel_rfl) (fun _ _ _ h => h) (Or.inl ⟨by rfl, ?_⟩) hHeld ?_ ?_
  rotate_left
  · rintro w' ⟨s0, s1⟩
    go_simp
    try with_reducible rfl
  rotate_left
  · simp only [Act.put, List.setIfInBounds_toArray, List.set_cons_zero, List.set_cons_succ]
    rfl
  refine take_ (i := 6) (N := some 52) (v := ?_) (a' := ?_) #[true, true, true, true, true, true, true, false, false, false, false, false, false, false, false, false, false, false, false, false, false, false, false, false, false, false, false, false, false, false, false, false, false, false, false, false, false] rfl rfl (by kernel_rfl) (fun _ _ _ h => h) (Or.inl ⟨by rfl, ?_⟩) hHeld ?_ ?_
  rotate_left
  · rintro w' ⟨s0, s1⟩
    go_simp
    try with_reducible rfl
  rotate_left
  · simp only [Act.put, List.setIfInBounds_toArray, List.set_cons_zero, List.set_cons_succ]
    rfl
  refine take_ (i := 7) (N := some 53) (v := ?_) (a' := ?_) #[true, true, true, true, true, true, true, true, false, false, false, false, false, false, false, false, false, false, false, false, false, false, false, false, false, false, false, false, false, false, false, false, false, false, false, false, false] rfl rfl (by kernel_rfl) (fun _ _ _ h => h) (Or.inl ⟨by rfl, ?_⟩) hHeld ?_ ?_
  rotate_left
  · rintro w' ⟨s0, s1⟩
    go_simp
    try with_reducible rfl
  rotate_left
  · simp only [Act.put, List.setIfInBounds_toArray, List.set_cons_zero, List.set_cons_succ]
    rfl
  refine take_ (i := 8) (N := some 54) (v := ?_) (a' := ?_) #[true, true, true, true, true, true, true, true, true, false, false, false, false, false, false, false, false, false, false, false, false, false, false, false, false, false, false, false, false, false, false, false, false, false, false, false, false] rfl rfl (by kernel_rfl) (fun _ _ _ h => h) (Or.inl ⟨by rfl, ?_⟩) hHeld ?_ ?_
  rotate_left
  · rintro w' ⟨s0, s1⟩
    go_simp
    try with_reducible rfl
  rotate_left
  · simp only [Act.put, List.setIfInBounds_toArray, List.set_cons_zero, List.set_cons_succ]
    rfl
  refine take_ (i := 9) (N := some 55) (v := ?_) (a' := ?_) #[true, true, true, true, true, true, true, true, true, true, false, false, false, false, false, false, false, false, false, false, false, false, false, false, false, false, false, false, false, false, false, false, false, false, false, false, false] rfl rfl (by kernel_rfl) (fun _ _ _ h => h) (Or.inl ⟨by rfl, ?_⟩) hHeld ?_ ?_
  rotate_left
  · rintro w' ⟨s0, s1⟩
    go_simp
    try with_reducible rfl
  rotate_left
  · simp only [Act.put, List.setIfInBounds_toArray, List.set_cons_zero, List.set_cons_succ]
    rfl
  refine take_ (i := 10) (N := some 56) (v := ?_) (a' := ?_) #[true, true, true, true, true, true, true, true, true, true, true, false, false, false, false, false, false, false, false, false, false, false, false, false, false, false, false, false, false, false, false, false, false, false, false, false, false] rfl rfl (by kernel_rfl) (fun _ _ _ h => h) (Or.inl ⟨by rfl, ?_⟩) hHeld ?_ ?_
  rotate_left
  · rintro w' ⟨s0, s1⟩
    go_simp
    try with_reducible rfl
  rotate_left
  · simp only [Act.put, List.setIfInBounds_toArray, List.set_cons_zero, List.set_cons_succ]
    rfl
  refine take_ (i := 11) (N := some 57) (v := ?_) (a' := ?_) #[true, true, true, true, true, true, true, true, true, true, true, true, false, false, false, false, false, false, false, false, false, false, false, false, false, false, false, false, false, false, false, false, false, false, false, false, false] rfl rfl (by kernel_rfl) (fun _ _ _ h => h) (Or.inl ⟨by rfl, ?_⟩) hHeld ?_ ?_
  rotate_left
  · rintro w' ⟨s0, s1⟩
    go_simp
    try with_reducible rfl
  rotate_left
  · simp only [Act.put, List.setIfInBounds_toArray, List.set_cons_zero, List.set_cons_succ]
    rfl
  refine take_ (i := 12) (N := some 58) (v := ?_) (a' := ?_) #[true, true, true, true, true, true, true, true, true, true, true, true, true, false, false, false, false, false, false, false, false, false, false, false, false, false, false, false, false, false, false, false, false, false, false, false, false] rfl rfl (by kernel_rfl) (fun _ _ _ h => h) (Or.inl ⟨by rfl, ?_⟩) hHeld ?_ ?_
  rotate_left
  · rintro w' ⟨s0, s1⟩
    go_simp
    try with_reducible rfl
  rotate_left
  · simp only [Act.put, List.setIfInBounds_toArray, List.set_cons_zero, List.set_cons_succ]
    rfl
  refine take_ (i := 13) (N := some 59) (v := ?_) (a' := ?_) #[true, true, true, true, true, true, true, true, true, true, true, true, true, true, false, false, false, false, false, false, false, false, false, false, false, false, false, false, false, false, false, false, false, false, false, false, false] rfl rfl (by kernel_rfl) (fun _ _ _ h => h) (Or.inl ⟨by rfl, ?_⟩) hHeld ?_ ?_
  rotate_left
  · rintro w' ⟨s0, s1⟩
    go_simp
    try with_reducible rfl
  rotate_left
  · simp only [Act.put, List.setIfInBounds_toArray, List.set_cons_zero, List.set_cons_succ]
    rfl
  refine take_ (i := 14) (N := some 60) (v := ?_) (a' := ?_) #[true, true, true, true, true, true, true, true, true, true, true, true, true, true, true, false, false, false, false, false, false, false, false, false, false, false, false, false, false, false, false, false, false, false, false, false, false] rfl rfl (by kernel_rfl) (fun _ _ _ h => h) (Or.inl ⟨by rfl, ?_⟩) hHeld ?_ ?_
  rotate_left
  · rintro w' ⟨s0, s1⟩
    go_simp
    try with_reducible rfl
  rotate_left
  · simp only [Act.put, List.setIfInBounds_toArray, List.set_cons_zero, List.set_cons_succ]
    rfl
  refine take_ (i := 15) (N := some 61) (v := ?_) (a' := ?_) #[true, true, true, true, true, true, true, true, true, true, true, true, true, true, true, true, false, false, false, false, false, false, false, false, false, false, false, false, false, false, false, false, false, false, false, false, false] rfl rfl (by kernel_rfl) (fun _ _ _ h => h) (Or.inl ⟨by rfl, ?_⟩) hHeld ?_ ?_
  rotate_left
  · rintro w' ⟨s0, s1⟩
    go_simp
    try with_reducible rfl
  rotate_left
  · simp only [Act.put, List.setIfInBounds_toArray, List.set_cons_zero, List.set_cons_succ]
    rfl
  refine take_ (i := 17) (N := some 63) (v := ?_) (a' := ?_) #[true, true, true, true, true, true, true, true, true, true, true, true, true, true, true, true, false, true, false, false, false, false, false, false, false, false, false, false, false, false, false, false, false, false, false, false, false] rfl rfl (by kernel_rfl) (fun _ _ _ h => h) (Or.inl ⟨by rfl, ?_⟩) hHeld ?_ ?_
  rotate_left
  · rintro w' ⟨s0, s1⟩
    have d0 := cell_blk s0; have d1 := cell_blk s1; go_simp
    try with_reducible rfl
  rotate_left
  · simp only [Act.put, List.setIfInBounds_toArray, List.set_cons_zero, List.set_cons_succ]
    rfl
  refine take_ (i := 18) (N := some 64) (v := ?_) (a' := ?_) #[true, true, true, true, true, true, true, true, true, true, true, true, true, true, true, true, false, true, true, false, false, false, false, false, false, false, false, false, false, false, false, false, false, false, false, false, false] rfl rfl (by kernel_rfl) (fun _ _ _ h => h) (Or.inl ⟨by rfl, ?_⟩) hHeld ?_ ?_
  rotate_left
  · rintro w' ⟨s0, s1⟩
    have d0 := cell_blk s0; have d1 := cell_blk s1; go_simp
    try with_reducible rfl
  rotate_left
  · simp only [Act.put, List.setIfInBounds_toArray, List.set_cons_zero, List.set_cons_succ]
    rfl
  refine one_ (i := 16) (N := some 62) #[true, true, true, true, true, true, true, true, true, true, true, true, true, true, true, true, true, true, true, false, false, false, false, false, false, false, false, false, false, false, false, false, false, false, false, false, false] rfl rfl (by kernel_rfl) (by decide) (fun K hK => ?_)
  refine goes_ Try.func24 (by kernel_rfl) rfl #[.slice (some ad1) n c1, .slice (some ad2) n c2] (by rfl) rfl rfl (by simp only [List.map_toArray, List.map_cons, List.map_nil]; rfl) ?_
  with_reducible refine (c_sameN (some ad1) c1 (L.take n) (some ad2) c2 (M.take n) _ n n (by rw [List.length_take]; omega) (by rw [List.length_take]; omega) (o1.take n) (o2.take n) Q (hsm.out n hn.out)).mono ?_
  rintro e X ⟨rfl, rfl⟩
  refine ⟨_, rfl, ?_⟩
  have S' := And.intro k.2.1 k.2.2.1
  clear hHeld
  refine hK.out _ _ S' (fun hHeld => ?_)
  clear hK K S'
  refine norm_ (a' := ?_) ?_ ?_
  rotate_left
  · show Act.put _ (some 62) _ = _
    simp only [Act.put, List.setIfInBounds_toArray, List.set_cons_zero, List.set_cons_succ]
    rfl
  refine one_ (i := 19) (N := some 65) #[true, true, true, true, true, true, true, true, true, true, true, true, true, true, true, true, true, true, true, true, false, false, false, false, false, false, false, false, false, false, false, false, false, false, false, false, false] rfl rfl (by kernel_rfl) (by decide) (fun K hK => ?_)
  refine goes_ Try.func49 (by kernel_rfl) rfl #[.agg #[.int .i64 v, .slice AS S.length cS, .int .i64 r, .slice AN N.length cN, .slice AT T.length cT], .agg #[.int .i64 v1, .slice AS1 S1.length cS1, .int .i64 r1, .slice AN1 N1.length cN1, .slice AT1 T1.length cT1]] (by rfl) rfl rfl (by simp only [List.map_toArray, List.map_cons, List.map_nil]; rfl) ?_
  with_reducible refine (rsame_heads v r AS cS S AN cN N AT cT T v1 r1 AS1 cS1 S1 AN1 cN1 N1 AT1 cT1 T1 _ k.ha k.hb Q hQ.out).mono ?_
  rintro e X1 ⟨rfl, hb⟩
  refine ⟨_, rfl, ?_⟩
  replace k := k.ext hb
  clear hb
  have S' := And.intro k.2.1 k.2.2.1
  clear hHeld
  refine hK.out _ _ S' (fun hHeld => ?_)
  clear hK K S'
  refine norm_ (a' := ?_) ?_ ?_
  rotate_left
  · show Act.put _ (some 65) _ = _
    simp only [Act.put, List.setIfInBounds_toArray, List.set_cons_zero, List.set_cons_succ]
    rfl
  refine take_ (i := 20) (N := some 66) (v := ?_) (a' := ?_) #[true, true, true, true, true, true, true, true, true, true, true, true, true, true, true, true, true, true, true, true, true, false, false, false, false, false, false, false, false, false, false, false, false, false, false, false, false] rfl rfl (by kernel_rfl) (fun _ _ _ h => h) (Or.inl ⟨by rfl, ?_⟩) hHeld ?_ ?_
  rotate_left
  · rintro w' ⟨s0, s1⟩
    go_simp
    try with_reducible rfl
  rotate_left
  · simp only [Act.put, List.setIfInBounds_toArray, List.set_cons_zero, List.set_cons_succ]
    rfl
  refine take_ (i := 21) (N := some 67) (v := ?_) (a' := ?_) #[true, true, true, true, true, true, true, true, true, true, true, true, true, true, true, true, true, true, true, true, true, true, false, false, false, false, false, false, false, false, false, false, false, false, false, false, false] rfl rfl (by kernel_rfl) (fun _ _ _ h => h) (Or.inl ⟨by rfl, ?_⟩) hHeld ?_ ?_
  rotate_left
  · rintro w' ⟨s0, s1⟩
    go_simp
    try with_reducible rfl
  rotate_left
  · simp only [Act.put, List.setIfInBounds_toArray, List.set_cons_zero, List.set_cons_succ]
    rfl
  refine take_ (i := 22) (N := some 68) (v := ?_) (a' := ?_) #[true, true, true, true, true, true, true, true, true, true, true, true, true, true, true, true, true, true, true, true, true, true, true, false, false, false, false, false, false, false, false, false, false, false, false, false, false] rfl rfl (by kernel_rfl) (fun _ _ _ h => h) (Or.inl ⟨by rfl, ?_⟩) hHeld ?_ ?_
  rotate_left
  · rintro w' ⟨s0, s1⟩
    go_simp
    try with_reducible rfl
  rotate_left
  · simp only [Act.put, List.setIfInBounds_toArray, List.set_cons_zero, List.set_cons_succ]
    rfl
  refine take_ (i := 23) (N := some 69) (v := ?_) (a' := ?_) #[true, true, true, true, true, true, true, true, true, true, true, true, true, true, true, true, true, true, true, true, true, true, true, true, false, false, false, false, false, false, false, false, false, false, false, false, false] rfl rfl (by kernel_rfl) (fun _ _ _ h => h) (Or.inl ⟨by rfl, ?_⟩) hHeld ?_ ?_
  rotate_left
  · rintro w' ⟨s0, s1⟩
    go_simp
    try with_reducible rfl
  rotate_left
  · simp only [Act.put, List.setIfInBounds_toArray, List.set_cons_zero, List.set_cons_succ]
    rfl
  refine take_ (i := 24) (N := some 70) (v := ?_) (a' := ?_) #[true, true, true, true, true, true, true, true, true, true, true, true, true, true, true, true, true, true, true, true, true, true, true, true, true, false, false, false, false, false, false, false, false, false, false, false, false] rfl rfl (by kernel_rfl) (fun _ _ _ h => h) (Or.inl ⟨by rfl, ?_⟩) hHeld ?_ ?_
  rotate_left
  · rintro w' ⟨s0, s1⟩
    go_simp
    try with_reducible rfl
  rotate_left
  · simp only [Act.put, List.setIfInBounds_toArray, List.set_cons_zero, List.set_cons_succ]
    rfl
  refine take_ (i := 25) (N := some 71) (v := ?_) (a' := ?_) #[true, true, true, true, true, true, true, true, true, true, true, true, true, true, true, true, true, true, true, true, true, true, true, true, true, true, false, false, false, false, false, false, false, false, false, false, false] rfl rfl (by kernel_rfl) (fun _ _ _ h => h) (Or.inl ⟨by rfl, ?_⟩) hHeld ?_ ?_
  rotate_left
  · rintro w' ⟨s0, s1⟩
    go_simp
    try with_reducible rfl
  rotate_left
  · simp only [Act.put, List.setIfInBounds_toArray, List.set_cons_zero, List.set_cons_succ]
    rfl
  refine take_ (i := 26) (N := some 72) (v := ?_) (a' := ?_) #[true, true, true, true, true, true, true, true, true, true, true, true, true, true, true, true, true, true, true, true, true, true, true, true, true, true, true, false, false, false, false, false, false, false, false, false, false] rfl rfl (by kernel_rfl) (fun _ _ _ h => h) (Or.inl ⟨by rfl, ?_⟩) hHeld ?_ ?_
  rotate_left
  · rintro w' ⟨s0, s1⟩
    go_simp
    try with_reducible rfl
  rotate_left
  · simp only [Act.put, List.setIfInBounds_toArray, List.set_cons_zero, List.set_cons_succ]
    rfl
  refine take_ (i := 27) (N := some 73) (v := ?_) (a' := ?_) #[true, true, true, true, true, true, true, true, true, true, true, true, true, true, true, true, true, true, true, true, true, true, true, true, true, true, true, true, false, false, false, false, false, false, false, false, false] rfl rfl (by kernel_rfl) (fun _ _ _ h => h) (Or.inl ⟨by rfl, ?_⟩) hHeld ?_ ?_
  rotate_left
  · rintro w' ⟨s0, s1⟩
    go_simp
    try with_reducible rfl
  rotate_left
  · simp only [Act.put, List.setIfInBounds_toArray, List.set_cons_zero, List.set_cons_succ]
    rfl
  refine take_ (i := 28) (N := some 74) (v := ?_) (a' := ?_) #[true, true, true, true, true, true, true, true, true, true, true, true, true, true, true, true, true, true, true, true, true, true, true, true, true, true, true, true, true, false, false, false, false, false, false, false, false] rfl rfl (by kernel_rfl) (fun _ _ _ h => h) (Or.inl ⟨by rfl, ?_⟩) hHeld ?_ ?_
  rotate_left
  · rintro w' ⟨s0, s1⟩
    have d0 := cell_blk s0; have d1 := cell_blk s1; go_simp
    try with_reducible rfl
  rotate_left
  · simp only [Act.put, List.setIfInBounds_toArray, List.set_cons_zero, List.set_cons_succ]
    rfl
  refine take_ (i := 29) (N := some 75) (v := ?_) (a' := ?_) #[true, true, true, true, true, true, true, true, true, true, true, true, true, true, true, true, true, true, true, true, true, true, true, true, true, true, true, true, true, true, false, false, false, false, false, false, false] rfl rfl (by kernel_rfl) (fun _ _ _ h => h) (Or.inl ⟨by rfl, ?_⟩) hHeld ?_ ?_
  rotate_left
  · rintro w' ⟨s0, s1⟩
    have d0 := cell_blk s0; have d1 := cell_blk s1; go_simp
    try with_reducible rfl
  rotate_left
  · simp only [Act.put, List.setIfInBounds_toArray, List.set_cons_zero, List.set_cons_succ]
    rfl
  refine take_ (i := 31) (N := some 77) (v := ?_) (a' := ?_) #[true, true, true, true, true, true, true, true, true, true, true, true, true, true, true, true, true, true, true, true, true, true, true, true, true, true, true, true, true, true, false, true, false, false, false, false, false] rfl rfl (by kernel_rfl) (fun _ _ _ h => h) (Or.inl ⟨by rfl, ?_⟩) hHeld ?_ ?_
  rotate_left
  · rintro w' ⟨s0, s1⟩
    have d0 := cell_blk s0; have d1 := cell_blk s1; go_simp
    try with_reducible rfl
  rotate_left
  · simp only [Act.put, List.setIfInBounds_toArray, List.set_cons_zero, List.set_cons_succ]
    rfl
  refine take_ (i := 32) (N := some 78) (v := ?_) (a' := ?_) #[true, true, true, true, true, true, true, true, true, true, true, true, true, true, true, true, true, true, true, true, true, true, true, true, true, true, true, true, true, true, false, true, true, false, false, false, false] rfl rfl (by kernel_rfl) (fun _ _ _ h => h) (Or.inl ⟨by rfl, ?_⟩) hHeld ?_ ?_
  rotate_left
  · rintro w' ⟨s0, s1⟩
    have d0 := cell_blk s0; have d1 := cell_blk s1; go_simp
    try with_reducible rfl
  rotate_left
  · simp only [Act.put, List.setIfInBounds_toArray, List.set_cons_zero, List.set_cons_succ]
    rfl
  refine one_ (i := 30) (N := some 76) #[true, true, true, true, true, true, true, true, true, true, true, true, true, true, true, true, true, true, true, true, true, true, true, true, true, true, true, true, true, true, true, true, true, false, false, false, false] rfl rfl (by kernel_rfl) (by decide) (fun K hK => ?_)
  refine goes_ Try.func48 (by kernel_rfl) rfl #[.agg #[.int .i64 v, .slice AS S.length cS, .int .i64 r, .slice AN N.length cN, .slice AT T.length cT], .agg #[.int .i64 v1, .slice AS1 S1.length cS1, .int .i64 r1, .slice AN1 N1.length cN1, .slice AT1 T1.length cT1]] (by rfl) rfl rfl (by simp only [List.map_toArray, List.map_cons, List.map_nil]; rfl) ?_
  with_reducible refine (same_heads v r AS cS S AN cN N AT cT T v1 r1 AS1 cS1 S1 AN1 cN1 N1 AT1 cT1 T1 _ k.ha k.hb Q hQ.out).mono ?_
  rintro e X2 ⟨rfl, hb⟩
  refine ⟨_, rfl, ?_⟩
  replace k := k.ext hb
  clear hb
  have S' := And.intro k.2.1 k.2.2.1
  clear hHeld
  refine hK.out _ _ S' (fun hHeld => ?_)
  clear hK K S'
  refine norm_ (a' := ?_) ?_ ?_
  rotate_left
  · show Act.put _ (some 76) _ = _
    simp only [Act.put, List.setIfInBounds_toArray, List.set_cons_zero, List.set_cons_succ]
    rfl
  refine one_ (i := 33) (N := some 79) #[true, true, true, true, true, true, true, true, true, true, true, true, true, true, true, true, true, true, true, true, true, true, true, true, true, true, true, true, true, true, true, true, true, true, false, false, false] rfl rfl (by kernel_rfl) (by decide) (fun K hK => ?_)
  refine goes_ Try.func49 (by kernel_rfl) rfl #[.agg #[.int .i64 v, .slice AS S.length cS, .int .i64 r, .slice AN N.length cN, .slice AT T.length cT], .agg #[.int .i64 v1, .slice AS1 S1.length cS1, .int .i64 r1, .slice AN1 N1.length cN1, .slice AT1 T1.length cT1]] (by rfl) rfl rfl (by simp only [List.map_toArray, List.map_cons, List.map_nil]; rfl) ?_
  with_reducible refine (rsame_heads v r AS cS S AN cN N AT cT T v1 r1 AS1 cS1 S1 AN1 cN1 N1 AT1 cT1 T1 _ k.ha k.hb Q hQ.out).mono ?_
  rintro e X3 ⟨rfl, hb⟩
  refine ⟨_, rfl, ?_⟩
  replace k := k.ext hb
  clear hb
  have S' := And.intro k.2.1 k.2.2.1
  clear hHeld
  refine hK.out _ _ S' (fun hHeld => ?_)
  clear hK K S'
  refine norm_ (a' := ?_) ?_ ?_
  rotate_left
  · show Act.put _ (some 79) _ = _
    simp only [Act.put, List.setIfInBounds_toArray, List.set_cons_zero, List.set_cons_succ]
    rfl
  refine take_ (i := 34) (N := some 80) (v := ?_) (a' := ?_) #[true, true, true, true, true, true, true, true, true, true, true, true, true, true, true, true, true, true, true, true, true, true, true, true, true, true, true, true, true, true, true, true, true, true, true, false, false] rfl rfl (by kernel_rfl) (fun _ _ _ h => h) (Or.inl ⟨by rfl, ?_⟩) hHeld ?_ ?_
  rotate_left
  · rintro w' ⟨s0, s1⟩
    go_simp
    try with_reducible rfl
  rotate_left
  · simp only [Act.put, List.setIfInBounds_toArray, List.set_cons_zero, List.set_cons_succ]
    rfl
  refine take_ (i := 35) (N := some 81) (v := ?_) (a' := ?_) #[true, true, true, true, true, true, true, true, true, true, true, true, true, true, true, true, true, true, true, true, true, true, true, true, true, true, true, true, true, true, true, true, true, true, true, true, false] rfl rfl (by kernel_rfl) (fun _ _ _ h => h) (Or.inl ⟨by rfl, ?_⟩) hHeld ?_ ?_
  rotate_left
  · rintro w' ⟨s0, s1⟩
    go_simp
    try with_reducible rfl
  rotate_left
  · simp only [Act.put, List.setIfInBounds_toArray, List.set_cons_zero, List.set_cons_succ]
    rfl
  refine take_ (i := 36) (N := some 4) (v := ?_) (a' := ?_) #[true, true, true, true, true, true, true, true, true, true, true, true, true, true, true, true, true, true, true, true, true, true, true, true, true, true, true, true, true, true, true, true, true, true, true, true, true] rfl rfl (by kernel_rfl) (fun _ _ _ h => h) (Or.inl ⟨by rfl, ?_⟩) hHeld ?_ ?_
  rotate_left
  · rintro w' ⟨s0, s1⟩
    go_simp
    try with_reducible rfl
  rotate_left
  · simp only [Act.put, List.setIfInBounds_toArray, List.set_cons_zero, List.set_cons_succ]
    rfl
  refine done_ (by kernel_rfl) ?_
  go_wp2_with fail
  go_ret
  exact ⟨ret_bool (by simp), k.1⟩
end Go.Proofs.Ytlcclaicodghcaa
