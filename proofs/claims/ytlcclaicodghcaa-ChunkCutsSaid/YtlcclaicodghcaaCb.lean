import Derived.Test.YtlcclaicodghcaaCa
namespace Go.Proofs.Ytlcclaicodghcaa
open Go.RowKit

/-- Alike up to a place. -/
def Eqt {α : Type} (x y : List α) (k : Nat) : Prop := ∀ i (h : i < x.length) (h' : i < y.length), i < k → x[i] = y[i]
theorem Eqt.zero {α : Type} (l l' : List α) : Eqt l l' 0 := fun _ _ _ h => absurd h (Nat.not_lt_zero _)
theorem Eqt.succ {α : Type} {l l' : List α} {k : Nat} (h : Eqt l l' k) (hk : k < l.length) (hk' : k < l'.length) (e : l[k] = l'[k]) : Eqt l l' (k + 1) := by
  intro i h1 h2 h3
  by_cases hi : i = k
  · subst hi; exact e
  · exact h i h1 h2 (by omega)
theorem Eqt.eq {α : Type} {l l' : List α} {k : Nat} (h : Eqt l l' k) (hl : l.length = l'.length) (hk : l.length ≤ k) : l = l' :=
  List.ext_getElem hl fun i h1 h2 => h i h1 h2 (by omega)
theorem ne_get {α : Type} {l l' : List α} {k : Nat} (hk : k < l.length) (hk' : k < l'.length) (e : ¬ l[k] = l'[k]) : ¬ l = l' := by
  rintro rfl; exact e rfl

theorem ex_drew3 {w : World} {n m l : Nat} : ∃ k, ((w.drewN n).drewN m).drewN l = w.drewN k := ⟨n + (m + l), by rw [World.drewN_drewN, World.drewN_drewN]⟩
set_option maxHeartbeats 400000 in
theorem below_q (A : Option Addr) (c : Nat) (x : List UInt8) (A' : Option Addr) (c' : Nat) (y : List UInt8) (w : World) (hx : OkB w A c x) (hy : OkB w A' c' y) (v : Bool) (hv : belowB x y = v) :
    Calls Try.prog 74 #[.slice A x.length c, .slice A' y.length c'] w fun e w' => e = .returned (.bool v) ∧ ∃ n, w' = w.drewN n := by
  have Hx := Lib.hid hx
  have Hy := Lib.hid hy
  have Hv := Lib.hid hv
  have hl := hx.2.2.1
  have hl' := hy.2.2.1
  clear hx hy hv
  go_enter Try.func74, Try.ntmps74
  go_wp2_with fail
  go_loopw [5] (fun i wr => ∃ k : Nat, k ≤ x.length ∧ k ≤ y.length ∧ i = .int .i64 k ∧ Hid (Eqt x y k) ∧ ∃ n, wr = w.drewN n) (fun i _ => x.length - (intOf i).toNat)
  case atStart => exact ⟨0, Nat.zero_le _, Nat.zero_le _, rfl, Eqt.zero _ _, 0, rfl⟩
  case round =>
    obtain ⟨k, hk, hk', rfl, Hr, n, rfl⟩ := hrel
    by_cases h1 : k < x.length
    · by_cases h2 : k < y.length
      · obtain ⟨b, off, rfl, hcx⟩ := Hx.out.some_ h1
        obtain ⟨b', off', rfl, hcy⟩ := Hy.out.some_ h2
        have hc1 := hcx k h1
        have hc2 := hcy k h2
        obtain ⟨a, ha⟩ : ∃ a, x[k] = a := ⟨_, rfl⟩
        obtain ⟨d, hd⟩ : ∃ d, y[k] = d := ⟨_, rfl⟩
        rw [ha] at hc1; rw [hd] at hc2
        clear hcx hcy
        by_cases he : a = d
        · subst he
          have He := Lib.hid (ha.trans hd.symm)
          clear ha hd
          go_wp2_with fail
          go_quiet (fail)
          go_wp2_with fail
          exact ⟨⟨k + 1, by omega, by omega, congrArg (Value.int .i64) (by omega), Hr.out.succ h1 h2 He.out, _, rfl⟩, by show x.length - ((k : Int) + 1).toNat < x.length - ((k : Int)).toNat; omega⟩
        · have hne : ¬ a.toNat = d.toNat := fun e => he (UInt8.toNat_inj.1 e)
          have Hb := Lib.hid (below_at h1 h2 Hr.out (by rw [ha, hd]; exact he))
          rw [ha, hd, Hv.out] at Hb
          have hne' : ((a.toNat : Int) != (d.toNat : Int)) = true := by rw [bne_iff_ne]; omega
          clear ha hd he
          go_wp2_with fail
          go_quiet (fail)
          go_wp2_with fail
          go_quiet (fail)
          go_wp2_with fail
          go_ret
          exact ⟨ret_bool (by first | exact Hb.out.symm | (rw [Hb.out]; simp)), by first | exact ⟨_, rfl⟩ | exact ⟨_, World.drewN_drewN _ _ _⟩ | exact ex_drew3⟩
      · have Hb := Lib.hid (below_end hk hk' (.inr (by omega)) Hr.out)
        rw [Hv.out] at Hb
        go_wp2_with fail
        go_ret
        exact ⟨ret_bool (by first | exact Hb.out.symm | (rw [Hb.out]; simp)), by first | exact ⟨_, rfl⟩ | exact ⟨_, World.drewN_drewN _ _ _⟩ | exact ex_drew3⟩
    · have Hb := Lib.hid (below_end hk hk' (.inl (by omega)) Hr.out)
      rw [Hv.out] at Hb
      go_wp2_with fail
      go_ret
      exact ⟨ret_bool (by first | exact Hb.out.symm | (rw [Hb.out]; simp)), by first | exact ⟨_, rfl⟩ | exact ⟨_, World.drewN_drewN _ _ _⟩ | exact ex_drew3⟩
theorem below_any (A : Option Addr) (c : Nat) (x : List UInt8) (A' : Option Addr) (c' : Nat) (y : List UInt8) (w : World) (hx : OkB w A c x) (hy : OkB w A' c' y) (v : Bool) (hv : belowB x y = v) :
    Calls Try.prog 74 #[.slice A x.length c, .slice A' y.length c'] w fun e w' => e = .returned (.bool v) ∧ Below w.heap.size w w' :=
  (below_q A c x A' c' y w hx hy v hv).mono fun _ _ ⟨h1, n, h2⟩ => ⟨h1, h2 ▸ bl_drewN (Below.refl _ _) n⟩
set_option maxHeartbeats 400000 in
theorem equal_any (A : Option Addr) (c : Nat) (x : List UInt8) (A' : Option Addr) (c' : Nat) (y : List UInt8) (w : World) (hx : OkB w A c x) (hy : OkB w A' c' y) (v : Bool) (hv : (x == y) = v) :
    Calls Try.prog 75 #[.slice A x.length c, .slice A' y.length c'] w fun e w' => e = .returned (.bool v) ∧ w = w' := by
  subst hv
  have h1 := run_str (P := Try.prog) (c := c) Try.underlying22 Try.underlying5 Try.underlying9 hx.1
  have h2 := run_str (P := Try.prog) (c := c') Try.underlying22 Try.underlying5 Try.underlying9 hy.1
  clear hx hy
  go_enter Try.func75, Try.ntmps75
  go_wp2
  go_ret
  exact ⟨ret_bool (strOf_eq x y), rfl⟩
/-- A number's bytes. -/
theorem c_number (n m : Int) (L : List UInt8) (w : World) (hn : -9223372036854775808 ≤ n) (hn' : n ≤ 9223372036854775807) (hL : numL n m = L) :
    Calls Try.prog 71 #[.int .i64 n, .int .i64 m] w fun e w' => (∃ A c, e = .returned (.slice A L.length c) ∧ OwnB w' w.heap.size A c L) ∧ Below w.heap.size w w' := by
  go_enter Try.func71, Try.ntmps71
  go_wp2_with fail
  refine (c_num n m _ L _ hn hn' rfl hL).mono ?_; rintro e w1 ⟨⟨A1, c1, rfl, o1⟩, hb⟩
  go_wp2_with fail
  go_ret
  exact ⟨⟨A1, c1, rfl, o1⟩, hb⟩
theorem c_rnumber (n m : Int) (L : List UInt8) (w : World) (hn : -9223372036854775808 ≤ n) (hn' : n ≤ 9223372036854775807) (hL : numL n m = L) :
    Calls Try.prog 72 #[.int .i64 n, .int .i64 m] w fun e w' => (∃ A c, e = .returned (.slice A L.length c) ∧ OwnB w' w.heap.size A c L) ∧ Below w.heap.size w w' := by
  go_enter Try.func72, Try.ntmps72
  go_wp2_with fail
  refine (c_rnum n m _ L _ hn hn' rfl hL).mono ?_; rintro e w1 ⟨⟨A1, c1, rfl, o1⟩, hb⟩
  go_wp2_with fail
  go_ret
  exact ⟨⟨A1, c1, rfl, o1⟩, hb⟩
end Go.Proofs.Ytlcclaicodghcaa
