import Derived.Test.YtlcclaicodghcaaCx
namespace Go.Proofs.Ytlcclaicodghcaa
open Go.RowKit
open Go.Proofs.YtlcclaicodghcaaW.PrintLast

theorem flat_long : ∀ l : List (List UInt8), l.flatten.length ≤ longL l := fun l => by unfold longL; omega
theorem c_rows (A : Option Addr) (c : Nat) (a : List (List UInt8)) (A' : Option Addr) (c' : Nat) (b : List (List UInt8)) (w : World) (n : Nat) (hn : a.length = n) (hR : RBB w A a) (hR' : RBB w A' b) (ha : n ≤ 140737488351232) (hv : a = b := by rfl) :
    Calls Try.prog 57 #[.slice A n c, .slice A' n c'] w fun e w' => e = .returned (.bool true) ∧ Below w.heap.size w w' := by
  subst hv hn
  exact rows_any A c a A' c' a w hR hR' ha true (by simp)

set_option maxRecDepth 20000 in
set_option maxHeartbeats 2000000 in
theorem kPieces_any (v r : Int) (AS : Option Addr) (cS : Nat) (S : List UInt8) (AN : Option Addr) (cN : Nat) (N : List UInt8) (AT : Option Addr) (cT : Nat) (T : List SectD) (A : Option Addr) (c : Nat) (x : List UInt8) (A2 : Option Addr) (c2 : Nat) (l : List (List UInt8)) (w : World) (hH : OkH w AS cS S AN cN N AT T) (ox : OkB w A c x) (oR : RBB w A2 l) (hl0 : l.length ≤ 140737488351232) : Calls Try.prog 13 #[.agg #[.int .i64 v, .slice AS S.length cS, .int .i64 r, .slice AN N.length cN, .slice AT T.length cT], .slice A x.length c, .slice A2 l.length c2] w fun e w' => e = .returned (.bool true) ∧ Below w.heap.size w w' := by
  cases hf : fewH S N T 20000
  · replace hf := Lib.hid hf
    have k := Lib.hid (OneH.new v r AS cS S AN cN N AT cT T hH)
    have ga := bl_alloc (Below.refl _ w) (.cells #[.int .i64 v, .slice AS S.length cS, .int .i64 r, .slice AN N.length cN, .slice AT T.length cT] 75)
    replace ox := Lib.hid (ox.ext ga)
    replace oR := Lib.hid (oR.ext ga)
    clear ga
    replace hH := Lib.hid hH
    go_enter Try.func13, Try.ntmps13
    go_wp2_with fail
    refine (shown17 _).mono ?_; rintro e w1 ⟨rfl, hb⟩
    replace ox := Lib.hid (ox.out.ext hb)
    replace oR := Lib.hid (oR.out.ext hb)
    replace k := Lib.hid (k.out.ext hb)
    clear hb
    have ca := (blk_facts k.out.2.1).1
    go_wp2_with fail
    refine (few_any v r AS cS S AN cN N AT cT T 20000 _ k.out.ha false hf.out).mono ?_; rintro e w2 ⟨rfl, hb⟩
    clear ca
    replace ox := Lib.hid (ox.out.ext hb)
    replace oR := Lib.hid (oR.out.ext hb)
    replace k := Lib.hid (k.out.ext hb)
    clear hb
    have ca := (blk_facts k.out.2.1).1
    go_wp2_with fail
    go_ret
    exact ⟨rfl, k.out.1⟩
  cases hr : rightH v S r N T
  · replace hf := Lib.hid hf; replace hr := Lib.hid hr
    have k := Lib.hid (OneH.new v r AS cS S AN cN N AT cT T hH)
    have ga := bl_alloc (Below.refl _ w) (.cells #[.int .i64 v, .slice AS S.length cS, .int .i64 r, .slice AN N.length cN, .slice AT T.length cT] 75)
    replace ox := Lib.hid (ox.ext ga)
    replace oR := Lib.hid (oR.ext ga)
    clear ga
    replace hH := Lib.hid hH
    go_enter Try.func13, Try.ntmps13
    go_wp2_with fail
    refine (shown17 _).mono ?_; rintro e w1 ⟨rfl, hb⟩
    replace ox := Lib.hid (ox.out.ext hb)
    replace oR := Lib.hid (oR.out.ext hb)
    replace k := Lib.hid (k.out.ext hb)
    clear hb
    have ca := (blk_facts k.out.2.1).1
    go_wp2_with fail
    refine (few_any v r AS cS S AN cN N AT cT T 20000 _ k.out.ha true hf.out).mono ?_; rintro e w2 ⟨rfl, hb⟩
    clear ca
    replace ox := Lib.hid (ox.out.ext hb)
    replace oR := Lib.hid (oR.out.ext hb)
    replace k := Lib.hid (k.out.ext hb)
    clear hb
    have ca := (blk_facts k.out.2.1).1
    go_wp2_with fail
    refine (rright_any v r AS cS S AN cN N AT cT T _ k.out.ha false hr.out).mono ?_; rintro e w3 ⟨rfl, hb⟩
    clear ca
    replace ox := Lib.hid (ox.out.ext hb)
    replace oR := Lib.hid (oR.out.ext hb)
    replace k := Lib.hid (k.out.ext hb)
    clear hb
    have ca := (blk_facts k.out.2.1).1
    go_wp2_with fail
    go_ret
    exact ⟨rfl, k.out.1⟩
  by_cases hx9 : (2000 : Int) < (x.length : Int)
  · replace hf := Lib.hid hf; replace hr := Lib.hid hr
    have k := Lib.hid (OneH.new v r AS cS S AN cN N AT cT T hH)
    have ga := bl_alloc (Below.refl _ w) (.cells #[.int .i64 v, .slice AS S.length cS, .int .i64 r, .slice AN N.length cN, .slice AT T.length cT] 75)
    replace ox := Lib.hid (ox.ext ga)
    replace oR := Lib.hid (oR.ext ga)
    clear ga
    replace hH := Lib.hid hH
    go_enter Try.func13, Try.ntmps13
    go_wp2_with fail
    refine (shown17 _).mono ?_; rintro e w1 ⟨rfl, hb⟩
    replace ox := Lib.hid (ox.out.ext hb)
    replace oR := Lib.hid (oR.out.ext hb)
    replace k := Lib.hid (k.out.ext hb)
    clear hb
    have ca := (blk_facts k.out.2.1).1
    go_wp2_with fail
    refine (few_any v r AS cS S AN cN N AT cT T 20000 _ k.out.ha true hf.out).mono ?_; rintro e w2 ⟨rfl, hb⟩
    clear ca
    replace ox := Lib.hid (ox.out.ext hb)
    replace oR := Lib.hid (oR.out.ext hb)
    replace k := Lib.hid (k.out.ext hb)
    clear hb
    have ca := (blk_facts k.out.2.1).1
    go_wp2_with fail
    refine (rright_any v r AS cS S AN cN N AT cT T _ k.out.ha true hr.out).mono ?_; rintro e w3 ⟨rfl, hb⟩
    clear ca
    replace ox := Lib.hid (ox.out.ext hb)
    replace oR := Lib.hid (oR.out.ext hb)
    replace k := Lib.hid (k.out.ext hb)
    clear hb
    have ca := (blk_facts k.out.2.1).1
    go_wp2_with fail
    go_ret
    exact ⟨rfl, k.out.1⟩
  by_cases hl9 : (50 : Int) < (l.length : Int)
  · replace hf := Lib.hid hf; replace hr := Lib.hid hr
    have k := Lib.hid (OneH.new v r AS cS S AN cN N AT cT T hH)
    have ga := bl_alloc (Below.refl _ w) (.cells #[.int .i64 v, .slice AS S.length cS, .int .i64 r, .slice AN N.length cN, .slice AT T.length cT] 75)
    replace ox := Lib.hid (ox.ext ga)
    replace oR := Lib.hid (oR.ext ga)
    clear ga
    replace hH := Lib.hid hH
    go_enter Try.func13, Try.ntmps13
    go_wp2_with fail
    refine (shown17 _).mono ?_; rintro e w1 ⟨rfl, hb⟩
    replace ox := Lib.hid (ox.out.ext hb)
    replace oR := Lib.hid (oR.out.ext hb)
    replace k := Lib.hid (k.out.ext hb)
    clear hb
    have ca := (blk_facts k.out.2.1).1
    go_wp2_with fail
    refine (few_any v r AS cS S AN cN N AT cT T 20000 _ k.out.ha true hf.out).mono ?_; rintro e w2 ⟨rfl, hb⟩
    clear ca
    replace ox := Lib.hid (ox.out.ext hb)
    replace oR := Lib.hid (oR.out.ext hb)
    replace k := Lib.hid (k.out.ext hb)
    clear hb
    have ca := (blk_facts k.out.2.1).1
    go_wp2_with fail
    refine (rright_any v r AS cS S AN cN N AT cT T _ k.out.ha true hr.out).mono ?_; rintro e w3 ⟨rfl, hb⟩
    clear ca
    replace ox := Lib.hid (ox.out.ext hb)
    replace oR := Lib.hid (oR.out.ext hb)
    replace k := Lib.hid (k.out.ext hb)
    clear hb
    have ca := (blk_facts k.out.2.1).1
    go_wp2_with fail
    go_ret
    exact ⟨rfl, k.out.1⟩
  obtain ⟨m0, hm0⟩ : ∃ z, longL l = z := ⟨_, rfl⟩
  have hfl := flat_long l
  rw [hm0] at hfl
  replace hm0 := Lib.hid hm0
  by_cases hm9 : (2000 : Int) < (m0 : Int)
  · replace hf := Lib.hid hf; replace hr := Lib.hid hr
    have k := Lib.hid (OneH.new v r AS cS S AN cN N AT cT T hH)
    have ga := bl_alloc (Below.refl _ w) (.cells #[.int .i64 v, .slice AS S.length cS, .int .i64 r, .slice AN N.length cN, .slice AT T.length cT] 75)
    replace ox := Lib.hid (ox.ext ga)
    replace oR := Lib.hid (oR.ext ga)
    clear ga
    replace hH := Lib.hid hH
    go_enter Try.func13, Try.ntmps13
    go_wp2_with fail
    refine (shown17 _).mono ?_; rintro e w1 ⟨rfl, hb⟩
    replace ox := Lib.hid (ox.out.ext hb)
    replace oR := Lib.hid (oR.out.ext hb)
    replace k := Lib.hid (k.out.ext hb)
    clear hb
    have ca := (blk_facts k.out.2.1).1
    go_wp2_with fail
    refine (few_any v r AS cS S AN cN N AT cT T 20000 _ k.out.ha true hf.out).mono ?_; rintro e w2 ⟨rfl, hb⟩
    clear ca
    replace ox := Lib.hid (ox.out.ext hb)
    replace oR := Lib.hid (oR.out.ext hb)
    replace k := Lib.hid (k.out.ext hb)
    clear hb
    have ca := (blk_facts k.out.2.1).1
    go_wp2_with fail
    refine (rright_any v r AS cS S AN cN N AT cT T _ k.out.ha true hr.out).mono ?_; rintro e w3 ⟨rfl, hb⟩
    clear ca
    replace ox := Lib.hid (ox.out.ext hb)
    replace oR := Lib.hid (oR.out.ext hb)
    replace k := Lib.hid (k.out.ext hb)
    clear hb
    have ca := (blk_facts k.out.2.1).1
    go_wp2_with fail
    refine (long_any A2 c2 l _ oR.out (by omega) m0 hm0.out).mono ?_; rintro e w4 ⟨rfl, hb⟩
    clear ca
    replace ox := Lib.hid (ox.out.ext hb)
    replace oR := Lib.hid (oR.out.ext hb)
    replace k := Lib.hid (k.out.ext hb)
    clear hb
    go_wp2_with fail
    go_ret
    exact ⟨rfl, k.out.1⟩
  have hR := rightH_iff.1 hr
  obtain ⟨n0, hn0⟩ : ∃ z, (writeL v S r N T).length = z := ⟨_, rfl⟩
  have hn9 : n0 ≤ 100000 := by rw [← hn0]; exact writeL_len
  obtain ⟨mt, hmt⟩ : ∃ z, startP T n0 T.length + 32 = z := ⟨_, rfl⟩
  have hlp := piecesP_len T n0 (lenS_le hR.2.2.2.2.2.2.2) T.length
  obtain ⟨P, hP⟩ : ∃ z, piecesP T n0 T.length = z := ⟨_, rfl⟩
  rw [hP] at hlp
  have hp9 : P.length ≤ 300000 := by omega
  have h64 := Lib.hid hR.2.2.2.2.2.2.1; have hrt := Lib.hid hR.2.2.2.2.2.2.2
  obtain ⟨q, hq⟩ : ∃ z, (splitB x).length = z := ⟨_, rfl⟩
  obtain ⟨F, hF⟩ : ∃ z, l.flatten = z := ⟨_, rfl⟩
  rw [hF] at hfl
  have hsp : decide (splitB x = splitB x) = true := by simp
  have hq9 : q ≤ 100 := by rw [← hq, splitB_len]; unfold splitN; omega
  replace hsp := Lib.hid hsp; replace hn0 := Lib.hid hn0; replace hmt := Lib.hid hmt; replace hP := Lib.hid hP; replace hq := Lib.hid hq; replace hF := Lib.hid hF; replace hf := Lib.hid hf; replace hr := Lib.hid hr
  clear hR hlp
  have k := Lib.hid (OneH.new v r AS cS S AN cN N AT cT T hH)
  have ga := bl_alloc (Below.refl _ w) (.cells #[.int .i64 v, .slice AS S.length cS, .int .i64 r, .slice AN N.length cN, .slice AT T.length cT] 75)
  replace ox := Lib.hid (ox.ext ga)
  replace oR := Lib.hid (oR.ext ga)
  clear ga
  replace hH := Lib.hid hH
  go_enter Try.func13, Try.ntmps13
  go_wp2_with fail
  refine (shown17 _).mono ?_; rintro e w1 ⟨rfl, hb⟩
  replace ox := Lib.hid (ox.out.ext hb)
  replace oR := Lib.hid (oR.out.ext hb)
  replace k := Lib.hid (k.out.ext hb)
  clear hb
  have ca := (blk_facts k.out.2.1).1
  go_wp2_with fail
  refine (few_any v r AS cS S AN cN N AT cT T 20000 _ k.out.ha true hf.out).mono ?_; rintro e w2 ⟨rfl, hb⟩
  clear ca
  replace ox := Lib.hid (ox.out.ext hb)
  replace oR := Lib.hid (oR.out.ext hb)
  replace k := Lib.hid (k.out.ext hb)
  clear hb
  have ca := (blk_facts k.out.2.1).1
  go_wp2_with fail
  refine (rright_any v r AS cS S AN cN N AT cT T _ k.out.ha true hr.out).mono ?_; rintro e w3 ⟨rfl, hb⟩
  clear ca
  replace ox := Lib.hid (ox.out.ext hb)
  replace oR := Lib.hid (oR.out.ext hb)
  replace k := Lib.hid (k.out.ext hb)
  clear hb
  have ca := (blk_facts k.out.2.1).1
  go_wp2_with fail
  refine (long_any A2 c2 l _ oR.out (by omega) m0 hm0.out).mono ?_; rintro e w4 ⟨rfl, hb⟩
  clear ca
  replace ox := Lib.hid (ox.out.ext hb)
  replace oR := Lib.hid (oR.out.ext hb)
  replace k := Lib.hid (k.out.ext hb)
  clear hb
  have ca := (blk_facts k.out.2.1).1
  go_wp2_with fail
  refine (pieces_any v r AS cS S AN cN N AT cT T _ k.out.ha hr.out n0 hn0.out (by omega)).mono ?_; rw [hP.out]; rintro e w5 ⟨⟨A3, c3, rfl, o3⟩, hb⟩
  clear ca
  replace o3 := Lib.hid (OwnV.rp o3)
  replace ox := Lib.hid (ox.out.ext hb)
  replace oR := Lib.hid (oR.out.ext hb)
  replace k := Lib.hid (k.out.ext hb)
  clear hb
  have ca := (blk_facts k.out.2.1).1
  go_wp2_with fail
  refine (rpieces_any v r AS cS S AN cN N AT cT T _ k.out.ha hr.out n0 hn0.out (by omega)).mono ?_; rw [hP.out]; rintro e w6 ⟨⟨A4, c4, rfl, o4⟩, hb⟩
  clear ca
  replace o4 := Lib.hid (OwnV.rp o4)
  replace ox := Lib.hid (ox.out.ext hb)
  replace oR := Lib.hid (oR.out.ext hb)
  replace o3 := Lib.hid (o3.out.ext hb)
  replace k := Lib.hid (k.out.ext hb)
  clear hb
  go_wp2_with fail
  have hb := bl_drew (Below.refl _ w6)
  replace ox := Lib.hid (ox.out.ext hb)
  replace oR := Lib.hid (oR.out.ext hb)
  replace o3 := Lib.hid (o3.out.ext hb)
  replace o4 := Lib.hid (o4.out.ext hb)
  replace k := Lib.hid (k.out.ext hb)
  clear hb
  replace ox := ox.out
  replace oR := oR.out
  replace o3 := o3.out
  replace o4 := o4.out
  replace k := k.out
  refine start_ (n := 28) (S := (fun W' => W'.heap[w.heap.size]? = some (.cells #[.int .i64 v, .slice AS S.length cS, .int .i64 r, .slice AN N.length cN, .slice AT T.length cT] 75 (0, 0)))) (ds := []) #[false, false, false, false, false, false, false, false, false, false, false, false, false, false, false, false, false, false, false, false, false, false, false, false, false, false, false, false] (by kernel_rfl) rfl rfl (k.2.1) (fun hHeld => ?_)
  refine take_ (i := 0) (N := some 40) (v := ?_) (a' := ?_) #[true, false, false, false, false, false, false, false, false, false, false, false, false, false, false, false, false, false, false, false, false, false, false, false, false, false, false, false] rfl rfl (by kernel_rfl) (fun _ _ _ h => h) (Or.inl ⟨by rfl, ?_⟩) hHeld ?_ ?_
  rotate_left
  · intro w' s0
    go_simp
    try with_reducible rfl
  rotate_left
  · simp only [Act.put, List.setIfInBounds_toArray, List.set_cons_zero, List.set_cons_succ]
    rfl
  refine take_ (i := 1) (N := some 41) (v := ?_) (a' := ?_) #[true, true, false, false, false, false, false, false, false, false, false, false, false, false, false, false, false, false, false, false, false, false, false, false, false, false, false, false] rfl rfl (by kernel_rfl) (fun _ _ _ h => h) (Or.inl ⟨by rfl, ?_⟩) hHeld ?_ ?_
  rotate_left
  · intro w' s0
    go_simp
    try with_reducible rfl
  rotate_left
  · simp only [Act.put, List.setIfInBounds_toArray, List.set_cons_zero, List.set_cons_succ]
    rfl
  refine take_ (i := 2) (N := some 42) (v := ?_) (a' := ?_) #[true, true, true, false, false, false, false, false, false, false, false, false, false, false, false, false, false, false, false, false, false, false, false, false, false, false, false, false] rfl rfl (by kernel_rfl) (fun _ _ _ h => h) (Or.inl ⟨by rfl, ?_⟩) hHeld ?_ ?_
  rotate_left
  · intro w' s0
    go_simp
    try with_reducible rfl
  rotate_left
  · simp only [Act.put, List.setIfInBounds_toArray, List.set_cons_zero, List.set_cons_succ]
    rfl
  refine take_ (i := 3) (N := some 43) (v := ?_) (a' := ?_) #[true, true, true, true, false, false, false, false, false, false, false, false, false, false, false, false, false, false, false, false, false, false, false, false, false, false, false, false] rfl rfl (by kernel_rfl) (fun _ _ _ h => h) (Or.inl ⟨by rfl, ?_⟩) hHeld ?_ ?_
  rotate_left
  · intro w' s0
    go_simp
    try with_reducible rfl
  rotate_left
  · simp only [Act.put, List.setIfInBounds_toArray, List.set_cons_zero, List.set_cons_succ]
    rfl
  refine take_ (i := 4) (N := some 44) (v := ?_) (a' := ?_) #[true, true, true, true, true, false, false, false, false, false, false, false, false, false, false, false, false, false, false, false, false, false, false, false, false, false, false, false] rfl rfl (by kernel_rfl) (fun _ _ _ h => h) (Or.inl ⟨by rfl, ?_⟩) hHeld ?_ ?_
  rotate_left
  · intro w' s0
    go_simp
    try with_reducible rfl
  rotate_left
  · simp only [Act.put, List.setIfInBounds_toArray, List.set_cons_zero, List.set_cons_succ]
    rfl
  refine take_ (i := 5) (N := some 45) (v := ?_) (a' := ?_) #[true, true, true, true, true, true, false, false, false, false, false, false, false, false, false, false, false, false, false, false, false, false, false, false, false, false, false, false] rfl rfl (by kernel_rfl) (fun _ _ _ h => h) (Or.inl ⟨by rfl, ?_⟩) hHeld ?_ ?_
  rotate_left
  · intro w' s0
    go_simp
    try with_reducible rfl
  rotate_left
  · simp only [Act.put, List.setIfInBounds_toArray, List.set_cons_zero, List.set_cons_succ]
    rfl
  refine take_ (i := 6) (N := some 46) (v := ?_) (a' := ?_) #[true, true, true, true, true, true, true, false, false, false, false, false, false, false, false, false, false, false, false, false, false, false, false, false, false, false, false, false] rfl rfl (by kernel_rfl) (fun _ _ _ h => h) (Or.inl ⟨by rfl, ?_⟩) hHeld ?_ ?_
  rotate_left
  · intro w' s0
    have d0 := cell_blk s0; go_simp
    try with_reducible rfl
  rotate_left
  · simp only [Act.put, List.setIfInBounds_toArray, List.set_cons_zero, List.set_cons_succ]
    rfl
  refine take_ (i := 8) (N := some 48) (v := ?_) (a' := ?_) #[true, true, true, true, true, true, true, false, true, false, false, false, false, false, false, false, false, false, false, false, false, false, false, false, false, false, false, false] rfl rfl (by kernel_rfl) (fun _ _ _ h => h) (Or.inl ⟨by rfl, ?_⟩) hHeld ?_ ?_
  rotate_left
  · intro w' s0
    have d0 := cell_blk s0; go_simp
    try with_reducible rfl
  rotate_left
  · simp only [Act.put, List.setIfInBounds_toArray, List.set_cons_zero, List.set_cons_succ]
    rfl
  refine one_ (i := 7) (N := some 47) #[true, true, true, true, true, true, true, true, true, false, false, false, false, false, false, false, false, false, false, false, false, false, false, false, false, false, false, false] rfl rfl (by kernel_rfl) (by decide) (fun K hK => ?_)
  refine goes_ Try.func55 (by kernel_rfl) rfl #[.agg #[.int .i64 v, .slice AS S.length cS, .int .i64 r, .slice AN N.length cN, .slice AT T.length cT]] (by rfl) rfl rfl (by simp only [List.map_toArray, List.map_cons, List.map_nil]; rfl) ?_
  with_reducible refine (total_any v r AS cS S AN cN N AT cT T _ k.ha h64.out hrt.out n0 hn0.out (by omega) mt hmt.out).mono ?_
  rintro e X1 ⟨rfl, hb⟩
  refine ⟨_, rfl, ?_⟩
  replace k := k.ext hb
  replace ox := ox.ext hb
  replace oR := oR.ext hb
  replace o3 := o3.ext hb
  replace o4 := o4.ext hb
  clear hb
  have S' := k.2.1
  clear hHeld
  refine hK.out _ _ S' (fun hHeld => ?_)
  clear hK K S'
  refine norm_ (a' := ?_) ?_ ?_
  rotate_left
  · show Act.put _ (some 47) _ = _
    simp only [Act.put, List.setIfInBounds_toArray, List.set_cons_zero, List.set_cons_succ]
    rfl
  refine one_ (i := 9) (N := some 49) #[true, true, true, true, true, true, true, true, true, true, false, false, false, false, false, false, false, false, false, false, false, false, false, false, false, false, false, false] rfl rfl (by kernel_rfl) (by decide) (fun K hK => ?_)
  refine goes_ Try.func56 (by kernel_rfl) rfl #[.agg #[.int .i64 v, .slice AS S.length cS, .int .i64 r, .slice AN N.length cN, .slice AT T.length cT]] (by rfl) rfl rfl (by simp only [List.map_toArray, List.map_cons, List.map_nil]; rfl) ?_
  with_reducible refine (rtotal_any v r AS cS S AN cN N AT cT T _ k.ha hr.out n0 hn0.out (by omega) mt hmt.out).mono ?_
  rintro e X2 ⟨rfl, hb⟩
  refine ⟨_, rfl, ?_⟩
  replace k := k.ext hb
  replace ox := ox.ext hb
  replace oR := oR.ext hb
  replace o3 := o3.ext hb
  replace o4 := o4.ext hb
  clear hb
  have S' := k.2.1
  clear hHeld
  refine hK.out _ _ S' (fun hHeld => ?_)
  clear hK K S'
  refine norm_ (a' := ?_) ?_ ?_
  rotate_left
  · show Act.put _ (some 49) _ = _
    simp only [Act.put, List.setIfInBounds_toArray, List.set_cons_zero, List.set_cons_succ]
    rfl
  refine take_ (i := 10) (N := some 50) (v := ?_) (a' := ?_) #[true, true, true, true, true, true, true, true, true, true, true, false, false, false, false, false, false, false, false, false, false, false, false, false, false, false, false, false] rfl rfl (by kernel_rfl) (fun _ _ _ h => h) (Or.inl ⟨by rfl, ?_⟩) hHeld ?_ ?_
  rotate_left
  · intro w' s0
    go_simp
    try with_reducible rfl
  rotate_left
  · simp only [Act.put, List.setIfInBounds_toArray, List.set_cons_zero, List.set_cons_succ]
    rfl
  refine take_ (i := 11) (N := some 51) (v := ?_) (a' := ?_) #[true, true, true, true, true, true, true, true, true, true, true, true, false, false, false, false, false, false, false, false, false, false, false, false, false, false, false, false] rfl rfl (by kernel_rfl) (fun _ _ _ h => h) (Or.inl ⟨by rfl, ?_⟩) hHeld ?_ ?_
  rotate_left
  · intro w' s0
    go_simp
    try with_reducible rfl
  rotate_left
  · simp only [Act.put, List.setIfInBounds_toArray, List.set_cons_zero, List.set_cons_succ]
    rfl
  refine take_ (i := 12) (N := some 52) (v := ?_) (a' := ?_) #[true, true, true, true, true, true, true, true, true, true, true, true, true, false, false, false, false, false, false, false, false, false, false, false, false, false, false, false] rfl rfl (by kernel_rfl) (fun _ _ _ h => h) (Or.inl ⟨by rfl, ?_⟩) hHeld ?_ ?_
  rotate_left
  · intro w' s0
    go_simp
    try with_reducible rfl
  rotate_left
  · simp only [Act.put, List.setIfInBounds_toArray, List.set_cons_zero, List.set_cons_succ]
    rfl
  refine take_ (i := 13) (N := some 53) (v := ?_) (a' := ?_) #[true, true, true, true, true, true, true, true, true, true, true, true, true, true, false, false, false, false, false, false, false, false, false, false, false, false, false, false] rfl rfl (by kernel_rfl) (fun _ _ _ h => h) (Or.inl ⟨by rfl, ?_⟩) hHeld ?_ ?_
  rotate_left
  · intro w' s0
    go_simp
    try with_reducible rfl
  rotate_left
  · simp only [Act.put, List.setIfInBounds_toArray, List.set_cons_zero, List.set_cons_succ]
    rfl
  refine take_ (i := 15) (N := some 55) (v := ?_) (a' := ?_) #[true, true, true, true, true, true, true, true, true, true, true, true, true, true, false, true, false, false, false, false, false, false, false, false, false, false, false, false] rfl rfl (by kernel_rfl) (fun _ _ _ h => h) (Or.inl ⟨by rfl, ?_⟩) hHeld ?_ ?_
  rotate_left
  · intro w' s0
    go_simp
    try with_reducible rfl
  rotate_left
  · simp only [Act.put, List.setIfInBounds_toArray, List.set_cons_zero, List.set_cons_succ]
    rfl
  refine one_ (i := 14) (N := some 54) #[true, true, true, true, true, true, true, true, true, true, true, true, true, true, true, true, false, false, false, false, false, false, false, false, false, false, false, false] rfl rfl (by kernel_rfl) (by decide) (fun K hK => ?_)
  refine goes_ Try.func58 (by kernel_rfl) rfl #[.slice A x.length c] (by rfl) rfl rfl (by simp only [List.map_toArray, List.map_cons, List.map_nil]; rfl) ?_
  with_reducible refine (c_splitN A c x _ q ox (by omega) hq.out).mono ?_
  rintro e X3 ⟨⟨A5, c5, rfl, r5⟩, hb⟩
  refine ⟨_, rfl, ?_⟩
  replace k := k.ext hb
  replace ox := ox.ext hb
  replace oR := oR.ext hb
  replace o3 := o3.ext hb
  replace o4 := o4.ext hb
  clear hb
  have S' := k.2.1
  clear hHeld
  refine hK.out _ _ S' (fun hHeld => ?_)
  clear hK K S'
  refine norm_ (a' := ?_) ?_ ?_
  rotate_left
  · show Act.put _ (some 54) _ = _
    simp only [Act.put, List.setIfInBounds_toArray, List.set_cons_zero, List.set_cons_succ]
    rfl
  refine one_ (i := 16) (N := some 56) #[true, true, true, true, true, true, true, true, true, true, true, true, true, true, true, true, true, false, false, false, false, false, false, false, false, false, false, false] rfl rfl (by kernel_rfl) (by decide) (fun K hK => ?_)
  refine goes_ Try.func59 (by kernel_rfl) rfl #[.slice A x.length c] (by rfl) rfl rfl (by simp only [List.map_toArray, List.map_cons, List.map_nil]; rfl) ?_
  with_reducible refine (c_rsplitN A c x _ q ox (by omega) hq.out).mono ?_
  rintro e X4 ⟨⟨A6, c6, rfl, r6⟩, hb⟩
  refine ⟨_, rfl, ?_⟩
  replace k := k.ext hb
  replace ox := ox.ext hb
  replace oR := oR.ext hb
  replace o3 := o3.ext hb
  replace o4 := o4.ext hb
  replace r5 := r5.ext hb
  clear hb
  have S' := k.2.1
  clear hHeld
  refine hK.out _ _ S' (fun hHeld => ?_)
  clear hK K S'
  refine norm_ (a' := ?_) ?_ ?_
  rotate_left
  · show Act.put _ (some 56) _ = _
    simp only [Act.put, List.setIfInBounds_toArray, List.set_cons_zero, List.set_cons_succ]
    rfl
  refine one_ (i := 17) (N := some 57) #[true, true, true, true, true, true, true, true, true, true, true, true, true, true, true, true, true, true, false, false, false, false, false, false, false, false, false, false] rfl rfl (by kernel_rfl) (by decide) (fun K hK => ?_)
  refine goes_ Try.func57 (by kernel_rfl) rfl #[.slice A5 q c5, .slice A6 q c6] (by rfl) rfl rfl (by simp only [List.map_toArray, List.map_cons, List.map_nil]; rfl) ?_
  with_reducible refine (c_rows A5 c5 (splitB x) A6 c6 (splitB x) _ q hq.out r5 r6 (by omega)).mono ?_
  rintro e X5 ⟨rfl, hb⟩
  refine ⟨_, rfl, ?_⟩
  replace k := k.ext hb
  replace ox := ox.ext hb
  replace oR := oR.ext hb
  replace o3 := o3.ext hb
  replace o4 := o4.ext hb
  clear r5 r6
  clear hb
  have S' := k.2.1
  clear hHeld
  refine hK.out _ _ S' (fun hHeld => ?_)
  clear hK K S'
  refine norm_ (a' := ?_) ?_ ?_
  rotate_left
  · show Act.put _ (some 57) _ = _
    simp only [Act.put, List.setIfInBounds_toArray, List.set_cons_zero, List.set_cons_succ]
    rfl
  refine take_ (i := 18) (N := some 58) (v := ?_) (a' := ?_) #[true, true, true, true, true, true, true, true, true, true, true, true, true, true, true, true, true, true, true, false, false, false, false, false, false, false, false, false] rfl rfl (by kernel_rfl) (fun _ _ _ h => h) (Or.inl ⟨by rfl, ?_⟩) hHeld ?_ ?_
  rotate_left
  · intro w' s0
    go_simp
    try with_reducible rfl
  rotate_left
  · simp only [Act.put, List.setIfInBounds_toArray, List.set_cons_zero, List.set_cons_succ]
    rfl
  refine take_ (i := 19) (N := some 59) (v := ?_) (a' := ?_) #[true, true, true, true, true, true, true, true, true, true, true, true, true, true, true, true, true, true, true, true, false, false, false, false, false, false, false, false] rfl rfl (by kernel_rfl) (fun _ _ _ h => h) (Or.inl ⟨by rfl, ?_⟩) hHeld ?_ ?_
  rotate_left
  · intro w' s0
    go_simp
    try with_reducible rfl
  rotate_left
  · simp only [Act.put, List.setIfInBounds_toArray, List.set_cons_zero, List.set_cons_succ]
    rfl
  refine take_ (i := 20) (N := some 60) (v := ?_) (a' := ?_) #[true, true, true, true, true, true, true, true, true, true, true, true, true, true, true, true, true, true, true, true, true, false, false, false, false, false, false, false] rfl rfl (by kernel_rfl) (fun _ _ _ h => h) (Or.inl ⟨by rfl, ?_⟩) hHeld ?_ ?_
  rotate_left
  · intro w' s0
    go_simp
    try with_reducible rfl
  rotate_left
  · simp only [Act.put, List.setIfInBounds_toArray, List.set_cons_zero, List.set_cons_succ]
    rfl
  refine take_ (i := 21) (N := some 61) (v := ?_) (a' := ?_) #[true, true, true, true, true, true, true, true, true, true, true, true, true, true, true, true, true, true, true, true, true, true, false, false, false, false, false, false] rfl rfl (by kernel_rfl) (fun _ _ _ h => h) (Or.inl ⟨by rfl, ?_⟩) hHeld ?_ ?_
  rotate_left
  · intro w' s0
    go_simp
    try with_reducible rfl
  rotate_left
  · simp only [Act.put, List.setIfInBounds_toArray, List.set_cons_zero, List.set_cons_succ]
    rfl
  refine take_ (i := 23) (N := some 63) (v := ?_) (a' := ?_) #[true, true, true, true, true, true, true, true, true, true, true, true, true, true, true, true, true, true, true, true, true, true, false, true, false, false, false, false] rfl rfl (by kernel_rfl) (fun _ _ _ h => h) (Or.inl ⟨by rfl, ?_⟩) hHeld ?_ ?_
  rotate_left
  · intro w' s0
    go_simp
    try with_reducible rfl
  rotate_left
  · simp only [Act.put, List.setIfInBounds_toArray, List.set_cons_zero, List.set_cons_succ]
    rfl
  refine one_ (i := 22) (N := some 62) #[true, true, true, true, true, true, true, true, true, true, true, true, true, true, true, true, true, true, true, true, true, true, true, true, false, false, false, false] rfl rfl (by kernel_rfl) (by decide) (fun K hK => ?_)
  refine goes_ Try.func60 (by kernel_rfl) rfl #[.slice A2 l.length c2] (by rfl) rfl rfl (by simp only [List.map_toArray, List.map_cons, List.map_nil]; rfl) ?_
  with_reducible refine (c_join A2 c2 l F _ _ rfl oR (by omega) (by rw [hF.out]; omega) hF.out).mono ?_
  rintro e X6 ⟨⟨A7, c7, rfl, o7⟩, hb⟩
  refine ⟨_, rfl, ?_⟩
  replace k := k.ext hb
  replace ox := ox.ext hb
  replace oR := oR.ext hb
  replace o3 := o3.ext hb
  replace o4 := o4.ext hb
  replace o7 := o7.ok
  clear hb
  have S' := k.2.1
  clear hHeld
  refine hK.out _ _ S' (fun hHeld => ?_)
  clear hK K S'
  refine norm_ (a' := ?_) ?_ ?_
  rotate_left
  · show Act.put _ (some 62) _ = _
    simp only [Act.put, List.setIfInBounds_toArray, List.set_cons_zero, List.set_cons_succ]
    rfl
  refine one_ (i := 24) (N := some 64) #[true, true, true, true, true, true, true, true, true, true, true, true, true, true, true, true, true, true, true, true, true, true, true, true, true, false, false, false] rfl rfl (by kernel_rfl) (by decide) (fun K hK => ?_)
  refine goes_ Try.func61 (by kernel_rfl) rfl #[.slice A2 l.length c2] (by rfl) rfl rfl (by simp only [List.map_toArray, List.map_cons, List.map_nil]; rfl) ?_
  with_reducible refine (rjoin_any A2 c2 l F _ oR (by omega) (by rw [hF.out]; omega) hF.out).mono ?_
  rintro e X7 ⟨⟨A8, c8, rfl, o8⟩, hb⟩
  refine ⟨_, rfl, ?_⟩
  replace k := k.ext hb
  replace ox := ox.ext hb
  replace oR := oR.ext hb
  replace o3 := o3.ext hb
  replace o4 := o4.ext hb
  replace o8 := o8.ok
  replace o7 := o7.ext hb
  clear hb
  have S' := k.2.1
  clear hHeld
  refine hK.out _ _ S' (fun hHeld => ?_)
  clear hK K S'
  refine norm_ (a' := ?_) ?_ ?_
  rotate_left
  · show Act.put _ (some 64) _ = _
    simp only [Act.put, List.setIfInBounds_toArray, List.set_cons_zero, List.set_cons_succ]
    rfl
  refine one_ (i := 25) (N := some 65) #[true, true, true, true, true, true, true, true, true, true, true, true, true, true, true, true, true, true, true, true, true, true, true, true, true, true, false, false] rfl rfl (by kernel_rfl) (by decide) (fun K hK => ?_)
  refine goes_ Try.func24 (by kernel_rfl) rfl #[.slice A7 F.length c7, .slice A8 F.length c8] (by rfl) rfl rfl (by simp only [List.map_toArray, List.map_cons, List.map_nil]; rfl) ?_
  with_reducible refine (c_same A7 c7 F A8 c8 F _ o7 o8 true (by simp)).mono ?_
  rintro e X ⟨rfl, rfl⟩
  refine ⟨_, rfl, ?_⟩
  clear o7 o8
  have S' := k.2.1
  clear hHeld
  refine hK.out _ _ S' (fun hHeld => ?_)
  clear hK K S'
  refine norm_ (a' := ?_) ?_ ?_
  rotate_left
  · show Act.put _ (some 65) _ = _
    simp only [Act.put, List.setIfInBounds_toArray, List.set_cons_zero, List.set_cons_succ]
    rfl
  refine take_ (i := 26) (N := some 66) (v := ?_) (a' := ?_) #[true, true, true, true, true, true, true, true, true, true, true, true, true, true, true, true, true, true, true, true, true, true, true, true, true, true, true, false] rfl rfl (by kernel_rfl) (fun _ _ _ h => h) (Or.inl ⟨by rfl, ?_⟩) hHeld ?_ ?_
  rotate_left
  · intro w' s0
    go_simp
    try with_reducible rfl
  rotate_left
  · simp only [Act.put, List.setIfInBounds_toArray, List.set_cons_zero, List.set_cons_succ]
    rfl
  refine take_ (i := 27) (N := some 67) (v := ?_) (a' := ?_) #[true, true, true, true, true, true, true, true, true, true, true, true, true, true, true, true, true, true, true, true, true, true, true, true, true, true, true, true] rfl rfl (by kernel_rfl) (fun _ _ _ h => h) (Or.inl ⟨by rfl, ?_⟩) hHeld ?_ ?_
  rotate_left
  · intro w' s0
    go_simp
    try with_reducible rfl
  rotate_left
  · simp only [Act.put, List.setIfInBounds_toArray, List.set_cons_zero, List.set_cons_succ]
    rfl
  refine done_ (by kernel_rfl) ?_
  replace k := Lib.hid k.1; replace o3 := Lib.hid o3; replace o4 := Lib.hid o4
  clear ox oR
  go_wp2_with fail
  go_loopw [10] (fun i wr => ∃ j : Nat, j ≤ P.length ∧ i = .int .i64 j ∧ Hid (Below X7.heap.size X7 wr)) (fun i _ => P.length - (intOf i).toNat)
  case atStart => exact ⟨0, Nat.zero_le _, rfl, Below.refl _ _⟩
  case round =>
    obtain ⟨j, hj, rfl, Hb⟩ := hrel
    by_cases hp : j < P.length
    · obtain ⟨bk, off, rfl, y0, y1, y2, y3, y4⟩ := (o3.out.ext Hb.out).some_ hp
      obtain ⟨bk', off', rfl, z0, z1, z2, z3, z4⟩ := (o4.out.ext Hb.out).some_ hp
      obtain ⟨p, hpe⟩ : ∃ p, P[j] = p := ⟨_, rfl⟩
      rw [hpe] at y0 y1 y2 y3 y4 z0 z1 z2 z3 z4
      clear hpe
      go_wp2_with fail
      refine start_ (n := 9) (S := (fun W' => W'.cell? ⟨bk, off + j * 5, none⟩ = some (.int .i64 p.1) ∧ W'.cell? ⟨bk, off + j * 5 + 1, none⟩ = some (.int .i64 p.2.1) ∧ W'.cell? ⟨bk, off + j * 5 + 2, none⟩ = some (.bool p.2.2.1) ∧ W'.cell? ⟨bk, off + j * 5 + 3, none⟩ = some (.int .i64 p.2.2.2.1) ∧ W'.cell? ⟨bk, off + j * 5 + 4, none⟩ = some (.int .i64 p.2.2.2.2) ∧ W'.cell? ⟨bk', off' + j * 5, none⟩ = some (.int .i64 p.1) ∧ W'.cell? ⟨bk', off' + j * 5 + 1, none⟩ = some (.int .i64 p.2.1) ∧ W'.cell? ⟨bk', off' + j * 5 + 2, none⟩ = some (.bool p.2.2.1) ∧ W'.cell? ⟨bk', off' + j * 5 + 3, none⟩ = some (.int .i64 p.2.2.2.1) ∧ W'.cell? ⟨bk', off' + j * 5 + 4, none⟩ = some (.int .i64 p.2.2.2.2))) (ds := []) #[false, false, false, false, false, false, false, false, false] (by kernel_rfl) rfl rfl (⟨y0, y1, y2, y3, y4, z0, z1, z2, z3, z4⟩) (fun hHeld => ?_)
      refine take_ (i := 0) (N := some 74) (v := ?_) (a' := ?_) #[true, false, false, false, false, false, false, false, false] rfl rfl (by kernel_rfl) (fun _ _ _ h => h) (Or.inl ⟨by rfl, ?_⟩) hHeld ?_ ?_
      rotate_left
      · rintro w' ⟨s0, s1, s2, s3, s4, s5, s6, s7, s8, s9⟩
        go_simp
        try with_reducible rfl
      rotate_left
      · simp only [Act.put, List.setIfInBounds_toArray, List.set_cons_zero, List.set_cons_succ]
        rfl
      refine take_ (i := 1) (N := some 75) (v := ?_) (a' := ?_) #[true, true, false, false, false, false, false, false, false] rfl rfl (by kernel_rfl) (fun _ _ _ h => h) (Or.inl ⟨by rfl, ?_⟩) hHeld ?_ ?_
      rotate_left
      · rintro w' ⟨s0, s1, s2, s3, s4, s5, s6, s7, s8, s9⟩
        go_simp
        try with_reducible rfl
      rotate_left
      · simp only [Act.put, List.setIfInBounds_toArray, List.set_cons_zero, List.set_cons_succ]
        rfl
      refine take_ (i := 2) (N := some 76) (v := ?_) (a' := ?_) #[true, true, true, false, false, false, false, false, false] rfl rfl (by kernel_rfl) (fun _ _ _ h => h) (Or.inl ⟨by rfl, ?_⟩) hHeld ?_ ?_
      rotate_left
      · rintro w' ⟨s0, s1, s2, s3, s4, s5, s6, s7, s8, s9⟩
        go_simp
        try with_reducible rfl
      rotate_left
      · simp only [Act.put, List.setIfInBounds_toArray, List.set_cons_zero, List.set_cons_succ]
        rfl
      refine take_ (i := 3) (N := some 77) (v := ?_) (a' := ?_) #[true, true, true, true, false, false, false, false, false] rfl rfl (by kernel_rfl) (fun _ _ _ h => h) (Or.inl ⟨by rfl, ?_⟩) hHeld ?_ ?_
      rotate_left
      · rintro w' ⟨s0, s1, s2, s3, s4, s5, s6, s7, s8, s9⟩
        go_simp
        try with_reducible rfl
      rotate_left
      · simp only [Act.put, List.setIfInBounds_toArray, List.set_cons_zero, List.set_cons_succ]
        rfl
      refine take_ (i := 4) (N := some 78) (v := ?_) (a' := ?_) #[true, true, true, true, true, false, false, false, false] rfl rfl (by kernel_rfl) (fun _ _ _ h => h) (Or.inl ⟨by rfl, ?_⟩) hHeld ?_ ?_
      rotate_left
      · rintro w' ⟨s0, s1, s2, s3, s4, s5, s6, s7, s8, s9⟩
        go_simp
        try with_reducible rfl
      rotate_left
      · simp only [Act.put, List.setIfInBounds_toArray, List.set_cons_zero, List.set_cons_succ]
        rfl
      refine take_ (i := 5) (N := some 79) (v := ?_) (a' := ?_) #[true, true, true, true, true, true, false, false, false] rfl rfl (by kernel_rfl) (fun _ _ _ h => h) (Or.inl ⟨by rfl, ?_⟩) hHeld ?_ ?_
      rotate_left
      · rintro w' ⟨s0, s1, s2, s3, s4, s5, s6, s7, s8, s9⟩
        go_simp
        try with_reducible rfl
      rotate_left
      · simp only [Act.put, List.setIfInBounds_toArray, List.set_cons_zero, List.set_cons_succ]
        rfl
      refine take_ (i := 6) (N := some 80) (v := ?_) (a' := ?_) #[true, true, true, true, true, true, true, false, false] rfl rfl (by kernel_rfl) (fun _ _ _ h => h) (Or.inl ⟨by rfl, ?_⟩) hHeld ?_ ?_
      rotate_left
      · rintro w' ⟨s0, s1, s2, s3, s4, s5, s6, s7, s8, s9⟩
        go_simp
        try with_reducible rfl
      rotate_left
      · simp only [Act.put, List.setIfInBounds_toArray, List.set_cons_zero, List.set_cons_succ]
        rfl
      refine take_ (i := 7) (N := some 81) (v := ?_) (a' := ?_) #[true, true, true, true, true, true, true, true, false] rfl rfl (by kernel_rfl) (fun _ _ _ h => h) (Or.inl ⟨by rfl, ?_⟩) hHeld ?_ ?_
      rotate_left
      · rintro w' ⟨s0, s1, s2, s3, s4, s5, s6, s7, s8, s9⟩
        go_simp
        try with_reducible rfl
      rotate_left
      · simp only [Act.put, List.setIfInBounds_toArray, List.set_cons_zero, List.set_cons_succ]
        rfl
      refine take_ (i := 8) (N := some 82) (v := ?_) (a' := ?_) #[true, true, true, true, true, true, true, true, true] rfl rfl (by kernel_rfl) (fun _ _ _ h => h) (Or.inl ⟨by rfl, ?_⟩) hHeld ?_ ?_
      rotate_left
      · rintro w' ⟨s0, s1, s2, s3, s4, s5, s6, s7, s8, s9⟩
        go_simp
        try with_reducible rfl
      rotate_left
      · simp only [Act.put, List.setIfInBounds_toArray, List.set_cons_zero, List.set_cons_succ]
        rfl
      refine done_ (by kernel_rfl) ?_
      have Hb1 := Lib.hid (bl_then Hb.out (bl_drew (Below.refl _ _)))
      go_wp2_with fail
      exact ⟨⟨j + 1, by omega, congrArg (Value.int .i64) (by omega), Hb1⟩, by show P.length - ((j : Int) + 1).toNat < P.length - ((j : Int)).toNat; omega⟩
    · have hje : j = P.length := by omega
      subst hje
      go_wp2_with fail
      go_ret
      exact ⟨rfl, bl_then k.out Hb.out⟩
end Go.Proofs.Ytlcclaicodghcaa
