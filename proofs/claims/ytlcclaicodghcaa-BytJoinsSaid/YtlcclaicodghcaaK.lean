import Derived.Test.YtlcclaicodghcaaJ
namespace Go.Proofs.Ytlcclaicodghcaa
open Go.RowKit

theorem quiet_add_left {P : Program} {f : FuncId} {args : Array Value} {w : World} {a n : Nat} {v : Value}
    (h : Calls P f args (w.drewN (a + n)) fun e w' => e = .returned v ∧ w.drewN (a + n) = w') :
    Calls P f args (w.drewN (a + n)) fun e w'' => e = .returned v ∧ ∃ m, w'' = w.drewN (a + m) :=
  h.mono fun _ _ ⟨he, hm⟩ => ⟨he, n, hm.symm⟩
theorem quiet_left {P : Program} {f : FuncId} {args : Array Value} {w : World} {n : Nat} {v : Value}
    (h : Calls P f args (w.drewN n) fun e w' => e = .returned v ∧ w.drewN n = w') : Calls P f args (w.drewN n) fun e w'' => e = .returned v ∧ ∃ m, w'' = w.drewN m :=
  h.mono fun _ _ ⟨he, hm⟩ => ⟨he, n, hm.symm⟩
theorem c_figure (n : Int) (N : Nat) (w : World) (h : n = N) (hN : N < 16) : Calls Try.prog 69 #[.int .i64 n] w fun e w' => e = .returned (.string (strOf [fig N])) ∧ w = w' := by
  subst h
  have := figure_any (N : Int) w (by omega) (by omega)
  rwa [Int.toNat_natCast] at this
theorem ex_drew {w : World} {n m : Nat} : ∃ k, (w.drewN n).drewN m = w.drewN k := ⟨_, World.drewN_drewN _ _ _⟩

theorem strOf_size (l : List UInt8) : (strOf l).size = l.length := by simp [strOf, ByteArray.size]
theorem strOf_app (l m : List UInt8) : strOf (l ++ m) = strOf l ++ strOf m := by
  apply ByteArray.ext; simp [strOf, ByteArray.data_append]
theorem app_size (a b : ByteArray) : (a ++ b).size = a.size + b.size := ByteArray.size_append
set_option maxRecDepth 20000 in
set_option maxHeartbeats 1000000 in
theorem rtext_any (A : Option Addr) (c : Nat) (x : List UInt8) (w : World) (hok : OkB w A c x) (hx : x.length ≤ 1000000) :
    Calls Try.prog 41 #[.slice A x.length c] w fun e w' => e = .returned (.string (strOf (txt x))) ∧ ∃ n, w' = w.drewN n := by
  have HR := Lib.hid hok
  clear hok
  go_enter Try.func41, Try.ntmps41
  go_wp2_with fail
  go_loopw [3, 4] (fun v i wr => ∃ k : Nat, k ≤ x.length ∧ i = .int .i64 k ∧ v = .string (strOf (txt (x.take k))) ∧ ∃ n, wr = w.drewN n) (fun _ i _ => x.length - (intOf i).toNat)
  case atStart => exact ⟨0, Nat.zero_le _, rfl, rfl, 0, rfl⟩
  case round =>
    obtain ⟨k, hk, rfl, rfl, n, rfl⟩ := hrel
    by_cases hlt : k < x.length
    · obtain ⟨bk, off, rfl, hcell⟩ := HR.out.some_ hlt
      have hc := hcell k hlt
      obtain ⟨y, hy⟩ : ∃ y, x[k] = y := ⟨_, rfl⟩
      rw [hy] at hc
      have hy1 : y.toNat ≤ 255 := by have := y.toNat_lt; omega
      have hk1 : (k : Int) < x.length := by omega
      clear hcell
      obtain ⟨s, hs⟩ : ∃ s, strOf (txt (x.take k)) = s := ⟨_, rfl⟩
      rw [hs]
      obtain ⟨hh, hhe⟩ : ∃ hh, y.toNat / 16 = hh := ⟨_, rfl⟩
      obtain ⟨ll, lle⟩ : ∃ ll, y.toNat % 16 = ll := ⟨_, rfl⟩
      obtain ⟨yy, yye⟩ : ∃ yy, y.toNat = yy := ⟨_, rfl⟩
      rw [yye] at hc
      have hhe' : yy / 16 = hh := by omega
      have lle' : yy % 16 = ll := by omega
      have hh16 : hh < 16 := by omega
      have ll16 : ll < 16 := by omega
      have H1 := Lib.hid hh16
      have H2 := Lib.hid ll16
      have hl2 := txt_len (x.take k)
      have hl3 : (x.take k).length ≤ k := List.length_take_le _ _
      obtain ⟨t1, ht1⟩ : ∃ t1, s ++ strOf [fig hh] = t1 := ⟨_, rfl⟩
      obtain ⟨t2, ht2⟩ : ∃ t2, t1 ++ strOf [fig ll] = t2 := ⟨_, rfl⟩
      have hss : s.size ≤ 2000000 := by rw [← hs, strOf_size]; omega
      have ht2e := Lib.hid (show strOf (txt (x.take (k + 1))) = t2 by
        rw [List.take_succ_eq_append_getElem hlt, hy, txt_snoc, strOf_app, strOf_app, hs, ← ht2, ← ht1, yye, hhe', lle'])
      have a1 : ∀ W : World, (Op.stringOp .add s (strOf [fig hh])).run Try.prog W = .ok (.string t1) W := fun W => ht1 ▸ run_string_add_sum W _ _ (by rw [strOf_size]; simp; omega)
      have ht1s : t1.size ≤ 2000001 := by rw [← ht1, app_size, strOf_size]; simp; omega
      have a2 : ∀ W : World, (Op.stringOp .add t1 (strOf [fig ll])).run Try.prog W = .ok (.string t2) W := fun W => ht2 ▸ run_string_add_sum W _ _ (by rw [strOf_size]; simp; omega)
      clear hl2 hl3 ht1 ht2 hss ht1s hs
      have e1 : IntKind.i64.wrap (yy : Int) = (yy : Int) := IntWalk.i64_in _ (by omega)
      have e2 : Int.tdiv (yy : Int) 16 = (hh : Int) := by rw [Int.tdiv_eq_ediv_of_nonneg (by omega)]; omega
      have e3 : IntKind.i64.wrap (hh : Int) = (hh : Int) := IntWalk.i64_in _ (by omega)
      have e4 : Int.tmod (yy : Int) 16 = (ll : Int) := by rw [Int.tmod_eq_emod_of_nonneg (by omega)]; omega
      have e5 : IntKind.i64.wrap (ll : Int) = (ll : Int) := IntWalk.i64_in _ (by omega)
      clear hhe lle yye hhe' lle' hy hy1
      go_wp2_with fail
      go_quiet ((go_at_call 69; first | (with_reducible exact quiet_add_left (c_figure hh hh _ rfl H1.out)) | (with_reducible exact quiet_add_left (c_figure ll ll _ rfl H2.out))))
      clear e1 e2 e3 e4 e5 a1 a2
      go_wp2_with fail
      go_roundw
      case rel => exact ⟨k + 1, by omega, by go_num, by rw [ht2e.out], by first | exact ⟨_, rfl⟩ | exact ex_drew⟩
      case measure => simp [intOf]; omega
    · have HE : Hid (x.take k = x) := List.take_of_length_le (by omega)
      go_wp2_with fail
      go_ret
      exact ⟨ret_str (by rw [HE.out]), n, rfl⟩
end Go.Proofs.Ytlcclaicodghcaa
