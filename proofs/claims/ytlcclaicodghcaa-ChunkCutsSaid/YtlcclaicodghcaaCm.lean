import Derived.Test.YtlcclaicodghcaaCl
namespace Go.Proofs.Ytlcclaicodghcaa
open Go.RowKit

set_option maxHeartbeats 1000000 in
theorem write_bad (v r : Int) (AS : Option Addr) (cS : Nat) (S : List UInt8) (AN : Option Addr) (cN : Nat) (N : List UInt8) (AT : Option Addr) (cT : Nat) (T : List SectD) (w : World) (hH : OkH w AS cS S AN cN N AT T) (hR : rightH v S r N T = false) :
    Calls Try.prog 44 #[.agg #[.int .i64 v, .slice AS S.length cS, .int .i64 r, .slice AN N.length cN, .slice AT T.length cT]] w fun e w' => e = .returned (.tuple #[.slice none 0 0, .int .i64 1]) ∧ Below w.heap.size w w' := by
  have g0 := bl_alloc (Below.refl _ w) (.cells #[.int .i64 v, .slice AS S.length cS, .int .i64 r, .slice AN N.length cN, .slice AT T.length cT] 75)
  replace hH := Lib.hid (hH.ext g0)
  have G := Lib.hid g0
  replace hR := Lib.hid hR
  clear g0
  go_enter Try.func44, Try.ntmps44
  go_wp2_with fail
  refine (right_any v r AS cS S AN cN N AT cT T _ hH.out false hR.out).mono ?_; rintro e w1 ⟨rfl, hb1⟩
  go_wp2_with fail
  go_ret2
  exact ⟨rfl, bl_then G.out hb1⟩
/-- A head's bytes, whatever the head. -/
theorem c_write (v r : Int) (AS : Option Addr) (cS : Nat) (S : List UInt8) (AN : Option Addr) (cN : Nat) (N : List UInt8) (AT : Option Addr) (cT : Nat) (T : List SectD) (E : Int) (L : List UInt8) (w : World) (hH : OkH w AS cS S AN cN N AT T) (hE : writeE v S r N T = E) (hL : writeL v S r N T = L) :
    Calls Try.prog 44 #[.agg #[.int .i64 v, .slice AS S.length cS, .int .i64 r, .slice AN N.length cN, .slice AT T.length cT]] w fun e w' => (∃ A c, e = .returned (.tuple #[.slice A L.length c, .int .i64 E]) ∧ OwnB w' w.heap.size A c L) ∧ Below w.heap.size w w' := by
  subst hE hL
  unfold writeE writeL
  cases h : rightH v S r N T
  · rw [if_neg (by decide), if_neg (by decide)]
    refine (write_bad v r AS cS S AN cN N AT cT T w hH h).mono ?_
    rintro e w' ⟨rfl, hb⟩
    exact ⟨⟨none, 0, rfl, own_nil _ _⟩, hb⟩
  · rw [if_pos rfl, if_pos rfl]
    exact write_any v r AS cS S AN cN N AT cT T w hH h _ _ _ rfl rfl rfl
theorem c_size (v r : Int) (AS : Option Addr) (cS : Nat) (S : List UInt8) (AN : Option Addr) (cN : Nat) (N : List UInt8) (AT : Option Addr) (cT : Nat) (T : List SectD) (n : Nat) (w : World) (hH : OkH w AS cS S AN cN N AT T) (hn : (writeL v S r N T).length = n) :
    Calls Try.prog 80 #[.agg #[.int .i64 v, .slice AS S.length cS, .int .i64 r, .slice AN N.length cN, .slice AT T.length cT]] w fun e w' => e = .returned (.int .i64 n) ∧ Below w.heap.size w w' := by
  obtain ⟨L, hL⟩ : ∃ L, writeL v S r N T = L := ⟨_, rfl⟩
  rw [hL] at hn
  replace hL := Lib.hid hL
  subst hn
  have g0 := bl_alloc (Below.refl _ w) (.cells #[.int .i64 v, .slice AS S.length cS, .int .i64 r, .slice AN N.length cN, .slice AT T.length cT] 75)
  replace hH := Lib.hid (hH.ext g0)
  replace g0 := Lib.hid g0
  go_enter Try.func80, Try.ntmps80
  go_wp2_with fail
  refine (c_write v r AS cS S AN cN N AT cT T _ L _ hH.out rfl hL.out).mono ?_; rintro e w1 ⟨⟨A1, c1, rfl, o1⟩, hb1⟩
  go_wp2_with fail
  go_ret
  exact ⟨rfl, bl_then g0.out hb1⟩
end Go.Proofs.Ytlcclaicodghcaa
