import Derived.Test.YtlcclaicodghcaaCb
import Derived.Test.YtlcclaicodghcaaXb
namespace Go.Proofs.Ytlcclaicodghcaa
open Go.RowKit

theorem c_grow (n : Nat) (w : World) (hn : n ≤ 140737488351232) :
    Calls Try.prog 82 #[.slice none 0 0, .int .i64 n] w fun e w' => (∃ A c, e = .returned (.slice A 0 c) ∧ OwnB w' w.heap.size A c []) ∧ Below w.heap.size w w' := by
  obtain ⟨i0, hi, hz0, hz1, hz2⟩ := info_parts info5
  by_cases h0 : n = 0
  · subst h0
    have h := Any8.slices_Grow_room growB none 0 0 0 w (Nat.le_refl _) (by omega) (by omega) (by omega)
    change Calls Try.prog 82 _ _ _ at h
    refine h.mono ?_
    rintro e w' ⟨rfl, rfl⟩
    exact ⟨⟨none, 0, rfl, own_nil _ _⟩, Below.refl _ _⟩
  · have h := Any8.slices_Grow_grow growB i0 (.int .u8 0) hi hz0 (by omega) none 0 0 n [] w (Nat.le_refl _) (by omega) (by rw [hz2]; omega) (by omega) (by simp) (fun _ => rfl) (fun a e => by cases e)
    change Calls Try.prog 82 _ _ _ at h
    refine h.mono ?_
    rintro e w' ⟨rfl, rfl⟩
    refine ⟨⟨_, _, rfl, ?_⟩, bl_alloc (bl_drew (Below.refl _ _)) _⟩
    refine ⟨World.ownsRow_made w.drew _ _ (Nat.le_refl _) (grownCap_le_maxLen _ _ _ _ (by unfold maxLen; omega)) ?_, Nat.zero_le _⟩
    have := grownCap_ge w (0 + n) 0 5
    rw [show growB_ren.t 25 = 5 from rfl, Array.size_append, Array.size_append, size_zeroCells, size_zeroCells, show (Value.int IntKind.u8 0).cells.size = 1 from rfl]
    simp only [Array.size_empty]
    omega

theorem flat_succ {l : List (List UInt8)} {k : Nat} (h : k < l.length) : (l.take (k + 1)).flatten = (l.take k).flatten ++ l[k] := by
  rw [List.take_succ_eq_append_getElem h, List.flatten_append]; simp
theorem flat_le {l : List (List UInt8)} (k : Nat) : (l.take k).flatten.length ≤ l.flatten.length := by
  conv => rhs; rw [← List.take_append_drop k l]
  rw [List.flatten_append, List.length_append]; omega
set_option maxRecDepth 20000 in
set_option maxHeartbeats 4000000 in
/-- All rows, one behind the other. -/
theorem concat_any (A : Option Addr) (c : Nat) (l : List (List UInt8)) (L : List UInt8) (w : World) (hR : RBB w A l) (hl0 : l.length ≤ 140737488351232) (hs : l.flatten.length ≤ 140737488351232) (hL : l.flatten = L) :
    Calls Try.prog 70 #[.slice A l.length c] w fun e w' => (∃ A' c', e = .returned (.slice A' L.length c') ∧ OwnB w' w.heap.size A' c' L) ∧ Below w.heap.size w w' := by
  subst hL
  replace hR := Lib.hid hR
  obtain ⟨N, hN⟩ : ∃ N, l.flatten.length = N := ⟨_, rfl⟩
  obtain ⟨i0, hi, hz0, hz1, hz2⟩ := info_parts info5
  rw [hN] at hs
  replace hN := Lib.hid hN
  go_enter Try.func70, Try.ntmps70
  go_wp2_with fail
  go_loop [3, 11] (fun o i => ∃ k : Nat, k ≤ l.length ∧ i = .int .i64 k ∧ o = .int .i64 ((l.take k).flatten.length : Nat)) (fun _ i => l.length - (intOf i).toNat)
  case atStart => exact ⟨0, Nat.zero_le _, rfl, rfl⟩
  case round =>
    obtain ⟨k, hk, rfl, rfl⟩ := hrel
    by_cases h1 : k < l.length
    · obtain ⟨bk, off, rfl, hcells⟩ := hR.out.some_ h1
      obtain ⟨Ax, cx, hcell, okx⟩ := hcells k h1
      have hle := flat_le (l := l) (k + 1)
      rw [hN.out, flat_succ h1, List.length_append] at hle
      have hf := Lib.hid (congrArg List.length (flat_succ h1))
      rw [List.length_append] at hf
      obtain ⟨S, hS⟩ : ∃ S, (l.take k).flatten.length = S := ⟨_, rfl⟩
      obtain ⟨S1, hS1⟩ : ∃ S, (l.take (k + 1)).flatten.length = S := ⟨_, rfl⟩
      obtain ⟨n1, hn1⟩ : ∃ n, l[k].length = n := ⟨_, rfl⟩
      rw [hS, hS1, hn1] at hf
      rw [hS] at hle ⊢
      rw [hn1] at hle hcell
      clear hcells okx
      replace hS := Lib.hid hS
      replace hS1 := Lib.hid hS1
      replace hn1 := Lib.hid hn1
      go_wp2_with fail
      exact ⟨⟨k + 1, by omega, congrArg (Value.int .i64) (by omega), congrArg (Value.int .i64) (by rw [hS1.out, hf.out]; omega)⟩, by show l.length - ((k : Int) + 1).toNat < l.length - ((k : Int)).toNat; omega⟩
    · have hke : k = l.length := by omega
      subst hke
      rw [List.take_length, hN.out]
      go_wp2_with fail
      refine (c_grow N _ hs).mono ?_; rintro e w1 ⟨⟨A1, c1, rfl, o1⟩, hb1⟩
      replace o1 := Lib.hid o1
      replace hb1 := Lib.hid hb1
      go_wp2_with fail
      go_loopw [6, 27] (fun o i wr => ∃ k : Nat, k ≤ l.length ∧ i = .int .i64 k ∧ (∃ Aa ca bs, o = .slice Aa (List.length bs) ca ∧ Hid (OwnB wr w.heap.size Aa ca bs) ∧ Hid (bs = (l.take k).flatten)) ∧ Hid (Below w.heap.size w wr)) (fun _ i _ => l.length - (intOf i).toNat)
      case atStart => exact ⟨0, Nat.zero_le _, rfl, ⟨A1, c1, [], rfl, o1, rfl⟩, hb1⟩
      case round =>
        obtain ⟨k, hk, rfl, ⟨Aa, ca, bs, rfl, Ho, hbs⟩, Hb⟩ := hrel
        by_cases h1 : k < l.length
        · obtain ⟨bk, off, rfl, hcells⟩ := (hR.out.ext Hb.out).some_ h1
          obtain ⟨Ax, cx, hcell, okx⟩ := hcells k h1
          have hle := flat_le (l := l) (k + 1)
          rw [hN.out, flat_succ h1, List.length_append, ← hbs.out] at hle
          have hf := Lib.hid (flat_succ h1)
          rw [← hbs.out] at hf
          obtain ⟨x, hx⟩ : ∃ x, l[k] = x := ⟨_, rfl⟩
          rw [hx] at hf hle hcell okx
          clear hcells
          replace hx := Lib.hid hx
          replace okx := Lib.hid okx
          go_wp2_with (at_builtin; refine append_any _ rfl (.tmp 31) (.tmp 32) 22 rfl w.heap.size i0 Try.underlying22 hi hz0 hz1 hz2 Aa ca bs rfl Ho.out Ax cx x rfl okx.out (by omega) Hb.out.size ?_; intro Ab cb bb wb kb hob hgb)
          exact ⟨⟨k + 1, by omega, congrArg (Value.int .i64) (by omega), ⟨Ab, cb, bb, rfl, hob, kb.out.trans hf.out.symm⟩, bl_grown Hb.out hgb (OwnB.low Ho.out (Nat.le_refl _))⟩, by show l.length - ((k : Int) + 1).toNat < l.length - ((k : Int)).toNat; omega⟩
        · have hke : k = l.length := by omega
          subst hke
          rw [List.take_length] at hbs
          go_wp2_with fail
          go_ret
          exact ⟨⟨Aa, ca, ret_sl (by rw [hbs.out]), by rw [← hbs.out]; exact Ho⟩, Hb⟩
end Go.Proofs.Ytlcclaicodghcaa
