import Derived.Test.YtlcclaicodghcaaCi
namespace Go.Proofs.Ytlcclaicodghcaa
open Go.RowKit

theorem box2_at {w wr : World} {c1 c2 : Array Value} {t : TypeId} (hb : Below ((w.alloc (.cells c1 t)).alloc (.cells c2 t)).heap.size ((w.alloc (.cells c1 t)).alloc (.cells c2 t)) wr) (i : Nat) :
    wr.cell? ⟨w.heap.size, i, none⟩ = c1[i]? ∧ wr.cell? ⟨w.heap.size + 1, i, none⟩ = c2[i]? := by
  constructor
  · refine (hb.cell (p := ⟨w.heap.size, i, none⟩) (by simp; omega)).trans ?_
    rw [World.cell?_alloc_lt _ _ _ (by simp), World.cell?_alloc_at _ _ _ _ rfl]
  · refine (hb.cell (p := ⟨w.heap.size + 1, i, none⟩) (by simp)).trans ?_
    rw [World.cell?_alloc_at _ _ _ _ (by simp)]

set_option maxRecDepth 20000 in
set_option maxHeartbeats 4000000 in
theorem same_heads (v r : Int) (AS : Option Addr) (cS : Nat) (S : List UInt8) (AN : Option Addr) (cN : Nat) (N : List UInt8) (AT : Option Addr) (cT : Nat) (T : List SectD) (v' r' : Int) (AS' : Option Addr) (cS' : Nat) (S' : List UInt8) (AN' : Option Addr) (cN' : Nat) (N' : List UInt8) (AT' : Option Addr) (cT' : Nat) (T' : List SectD) (w : World) (hH : OkH w AS cS S AN cN N AT T) (hH' : OkH w AS' cS' S' AN' cN' N' AT' T') (b : Bool) (hb : sameH v S r N T v' S' r' N' T' = b) :
    Calls Try.prog 48 #[.agg #[.int .i64 v, .slice AS S.length cS, .int .i64 r, .slice AN N.length cN, .slice AT T.length cT], .agg #[.int .i64 v', .slice AS' S'.length cS', .int .i64 r', .slice AN' N'.length cN', .slice AT' T'.length cT']] w fun e w' => e = .returned (.bool b) ∧ Below w.heap.size w w' := by
  have hl := hH.2.2.2
  obtain ⟨bS, hS⟩ : ∃ d, (S == S') = d := ⟨_, rfl⟩
  obtain ⟨bN, hN⟩ : ∃ d, (N == N') = d := ⟨_, rfl⟩
  obtain ⟨bT, hT⟩ : ∃ d, decide (T = T') = d := ⟨_, rfl⟩
  unfold sameH at hb
  rw [hS, hN, hT] at hb
  replace hS := Lib.hid hS; replace hN := Lib.hid hN; replace hT := Lib.hid hT
  by_cases e1 : v = v'
  rotate_left
  · rw [decide_eq_false e1] at hb
    have f1 : (v == v') = false := by simp [e1]
    replace e1 := Lib.hid e1
    have g := bl_alloc (bl_alloc (Below.refl w.heap.size w) (.cells #[.int .i64 v, .slice AS S.length cS, .int .i64 r, .slice AN N.length cN, .slice AT T.length cT] 75)) (.cells #[.int .i64 v', .slice AS' S'.length cS', .int .i64 r', .slice AN' N'.length cN', .slice AT' T'.length cT'] 75)
    replace hH := Lib.hid (hH.ext g); replace hH' := Lib.hid (hH'.ext g)
    replace g := Lib.hid g
    replace hb := Lib.hid hb
    go_enter Try.func48, Try.ntmps48
    go_wp2_with fail
    go_ret
    exact ⟨ret_bool (by rw [← hb.out]; simp), g.out⟩
  subst e1
  by_cases e2 : r = r'
  rotate_left
  · rw [decide_eq_false e2] at hb
    have f2 : (r == r') = false := by simp [e2]
    replace e2 := Lib.hid e2
    have g := bl_alloc (bl_alloc (Below.refl w.heap.size w) (.cells #[.int .i64 v, .slice AS S.length cS, .int .i64 r, .slice AN N.length cN, .slice AT T.length cT] 75)) (.cells #[.int .i64 v, .slice AS' S'.length cS', .int .i64 r', .slice AN' N'.length cN', .slice AT' T'.length cT'] 75)
    replace hH := Lib.hid (hH.ext g); replace hH' := Lib.hid (hH'.ext g)
    replace g := Lib.hid g
    replace hb := Lib.hid hb
    go_enter Try.func48, Try.ntmps48
    go_wp2_with fail
    refine (equal_any _ _ _ _ _ _ _ hH.out.1 hH'.out.1 bS hS.out).mono ?_; rintro e w1 ⟨rfl, rfl⟩
    cases bS
    · go_wp2_with fail
      go_ret
      exact ⟨ret_bool (by rw [← hb.out]; simp), g.out⟩
    · go_wp2_with fail
      go_ret
      exact ⟨ret_bool (by rw [← hb.out]; simp), g.out⟩
  subst e2
  have g := bl_alloc (bl_alloc (Below.refl w.heap.size w) (.cells #[.int .i64 v, .slice AS S.length cS, .int .i64 r, .slice AN N.length cN, .slice AT T.length cT] 75)) (.cells #[.int .i64 v, .slice AS' S'.length cS', .int .i64 r, .slice AN' N'.length cN', .slice AT' T'.length cT'] 75)
  replace hH := Lib.hid (hH.ext g); replace hH' := Lib.hid (hH'.ext g)
  replace g := Lib.hid g
  replace hb := Lib.hid hb
  go_enter Try.func48, Try.ntmps48
  go_wp2_with fail
  refine (equal_any _ _ _ _ _ _ _ hH.out.1 hH'.out.1 bS hS.out).mono ?_; rintro e w1 ⟨rfl, rfl⟩
  cases bS
  · go_wp2_with fail
    go_ret
    exact ⟨ret_bool (by rw [← hb.out]; simp), g.out⟩
  · go_wp2_with fail
    refine (equal_any _ _ _ _ _ _ _ hH.out.2.1 hH'.out.2.1 bN hN.out).mono ?_; rintro e w1 ⟨rfl, rfl⟩
    cases bN
    · go_wp2_with fail
      go_ret
      exact ⟨ret_bool (by rw [← hb.out]; simp), g.out⟩
    · go_wp2_with fail
      refine (equalFunc_any AT cT T AT' cT' T' _ hH.out.2.2.1 hH'.out.2.2.1 hl bT hT.out).mono ?_; rintro e w2 ⟨rfl, hb2⟩
      replace hb2 := Lib.hid hb2
      cases bT
      · go_wp2_with fail
        go_ret
        exact ⟨ret_bool (by rw [← hb.out]; simp), bl_then g.out hb2.out⟩
      · go_wp2_with fail
        go_ret
        exact ⟨ret_bool (by rw [← hb.out]; simp), bl_then g.out hb2.out⟩
end Go.Proofs.Ytlcclaicodghcaa
