import Derived.Test.YtlcclaicodghcaaCe
namespace Go.Proofs.Ytlcclaicodghcaa
open Go.RowKit

theorem OkB.drop' {w : World} {bk off c : Nat} {x : List UInt8} (h : OkB w (some ⟨bk, off, none⟩) c x) {M : Nat} (hM : M < x.length) : OkB w (some ⟨bk, off + M, none⟩) (c - M) (x.drop M) := by
  have h1 := h.2.1
  have h2 := h.drop (Nat.le_of_lt hM)
  rwa [if_neg (by omega)] at h2

set_option maxRecDepth 20000 in
set_option maxHeartbeats 4000000 in
/-- Bytes in rows, as the document says. -/
theorem rsplit_any (A : Option Addr) (c : Nat) (b : List UInt8) (w : World) (hok : OkB w A c b) (hl : b.length ≤ 1000000) :
    Calls Try.prog 59 #[.slice A b.length c] w fun e w' => (∃ A' c', e = .returned (.slice A' (splitB b).length c') ∧ RBB w' A' (splitB b)) ∧ Below w.heap.size w w' := by
  rw [splitB_len]
  obtain ⟨i0, hi, hz0, hz1, hz2⟩ := info_parts info22
  have hN : splitN b = (b.length + 255) / 256 := rfl
  obtain ⟨N, hNe⟩ : ∃ N, splitN b = N := ⟨_, rfl⟩
  rw [hNe] at hN ⊢
  replace hNe := Lib.hid hNe
  replace hN := Lib.hid hN
  replace hok := Lib.hid hok
  go_enter Try.func59, Try.ntmps59
  go_wp2_with fail
  go_loopw [4, 3] (fun r o wr => ∃ k T : Nat, Hid (k ≤ N) ∧ Hid (T = 256 * k) ∧ r = .int .i64 T ∧ T ≤ 1000256 ∧ (∃ Ao co vs, o = .slice Ao k co ∧ Hid (OwnV wr w.heap.size 22 1 Ao k co vs) ∧ Hid (PiecesAt w b k vs)) ∧ Hid (Below w.heap.size w wr)) (fun r _ _ => 1000000 - (intOf r).toNat)
  case atStart => exact ⟨0, 0, Nat.zero_le _, rfl, rfl, Nat.zero_le _, ⟨none, 0, [], rfl, OwnV.nil _ _ _ _, PiecesAt.zero _ _⟩, Below.refl _ _⟩
  case round =>
    obtain ⟨k, T, hk, hT, rfl, hT9, ⟨Ao, co, vs, rfl, Ho, Hp⟩, Hb⟩ := hrel
    by_cases h0 : T < b.length
    · have hkN : k < N := by have := hN.out; have := hT.out; omega
      have hk9 : k ≤ 10000 := by have := hT.out; omega
      obtain ⟨bk, off, hA, hcx⟩ := hok.out.some_ h0
      subst hA
      have hcap := hok.out.2.1
      have hcap2 := hok.out.2.2.1
      have hP : Hid (pieceB b k = (b.drop T).take 256) := by show _ = _; unfold pieceB; rw [hT.out]
      by_cases he : b.length < T + 256
      · go_wp2_with (at_builtin; refine append_new _ #[.slice (some ⟨bk, off + T, none⟩) (b.length - T) (c - T)] rfl (.tmp 20) (.tmp 25) 54 rfl w.heap.size 22 i0 (.slice none 0 0) 1 24 Try.underlying54 hi hz0 hz1 hz2 rfl (by decide) Ao k co vs rfl Ho.out 1 rfl rfl (by simp [Value.oneCell']) (by unfold maxLen; omega) (by omega) Hb.out.size ?_; intro A2 c2 w2 Ho2 Hb2)
        refine ⟨⟨k + 1, T + 256, hkN, by show _ = _; rw [hT.out]; omega, congrArg (Value.int .i64) (by omega), by omega, ⟨A2, c2, _, rfl, Ho2, Hp.out.succ (v := .slice (some ⟨bk, off + T, none⟩) (b.length - T) (c - T)) ⟨some ⟨bk, off + T, none⟩, c - T, ?_, ?_⟩⟩, Hb.out.trans Hb2.out⟩, by show 1000000 - ((T : Int) + 256).toNat < 1000000 - ((T : Int)).toNat; omega⟩
        · rw [hP.out, List.length_take, List.length_drop, Nat.min_eq_right (by omega)]
        · rw [hP.out]; exact (hok.out.drop' (by omega)).take _
      · go_wp2_with (at_builtin; refine append_new _ #[.slice (some ⟨bk, off + T, none⟩) 256 (c - T)] rfl (.tmp 20) (.tmp 25) 54 rfl w.heap.size 22 i0 (.slice none 0 0) 1 24 Try.underlying54 hi hz0 hz1 hz2 rfl (by decide) Ao k co vs rfl Ho.out 1 rfl rfl (by simp [Value.oneCell']) (by unfold maxLen; omega) (by omega) Hb.out.size ?_; intro A2 c2 w2 Ho2 Hb2)
        refine ⟨⟨k + 1, T + 256, hkN, by show _ = _; rw [hT.out]; omega, congrArg (Value.int .i64) (by omega), by omega, ⟨A2, c2, _, rfl, Ho2, Hp.out.succ (v := .slice (some ⟨bk, off + T, none⟩) 256 (c - T)) ⟨some ⟨bk, off + T, none⟩, c - T, ?_, ?_⟩⟩, Hb.out.trans Hb2.out⟩, by show 1000000 - ((T : Int) + 256).toNat < 1000000 - ((T : Int)).toNat; omega⟩
        · rw [hP.out, List.length_take, List.length_drop, Nat.min_eq_left (by omega)]
        · rw [hP.out]; exact (hok.out.drop' (by omega)).take _
    · have hkN : k = N := by have := hN.out; have := hT.out; have := hk.out; omega
      go_wp2_with fail
      go_ret
      exact ⟨⟨Ao, co, ret_sl hkN, Hp.out.rbb (hkN.trans hNe.out.symm) Ho.out Hb.out⟩, Hb⟩
set_option maxHeartbeats 1000000 in
theorem join_any (A : Option Addr) (c : Nat) (l : List (List UInt8)) (L : List UInt8) (w : World) (hR : RBB w A l) (hl0 : l.length ≤ 140737488351232) (hs : l.flatten.length ≤ 140737488351232) (hL : l.flatten = L) :
    Calls Try.prog 60 #[.slice A l.length c] w fun e w' => (∃ A' c', e = .returned (.slice A' L.length c') ∧ OwnB w' w.heap.size A' c' L) ∧ Below w.heap.size w w' := by
  go_enter Try.func60, Try.ntmps60
  go_wp2_with fail
  refine (concat_any A c l L _ hR hl0 hs hL).mono ?_; rintro e w1 ⟨⟨A1, c1, rfl, o1⟩, hb⟩
  go_wp2_with fail
  go_ret
  exact ⟨⟨A1, c1, rfl, o1⟩, hb⟩
set_option maxRecDepth 20000 in
set_option maxHeartbeats 4000000 in
theorem rjoin_any (A : Option Addr) (c : Nat) (l : List (List UInt8)) (L : List UInt8) (w : World) (hR : RBB w A l) (hl0 : l.length ≤ 140737488351232) (hs : l.flatten.length ≤ 140737488351232) (hL : l.flatten = L) :
    Calls Try.prog 61 #[.slice A l.length c] w fun e w' => (∃ A' c', e = .returned (.slice A' L.length c') ∧ OwnB w' w.heap.size A' c' L) ∧ Below w.heap.size w w' := by
  subst hL
  replace hR := Lib.hid hR
  obtain ⟨N, hN⟩ : ∃ N, l.flatten.length = N := ⟨_, rfl⟩
  obtain ⟨i0, hi, hz0, hz1, hz2⟩ := info_parts info5
  rw [hN] at hs
  replace hN := Lib.hid hN
  go_enter Try.func61, Try.ntmps61
  go_wp2_with fail
  go_loopw [3, 4] (fun o i wr => ∃ k : Nat, k ≤ l.length ∧ i = .int .i64 k ∧ (∃ Aa ca bs, o = .slice Aa (List.length bs) ca ∧ Hid (OwnB wr w.heap.size Aa ca bs) ∧ Hid (bs = (l.take k).flatten)) ∧ Hid (Below w.heap.size w wr)) (fun _ i _ => l.length - (intOf i).toNat)
  case atStart => exact ⟨0, Nat.zero_le _, rfl, ⟨none, 0, [], rfl, own_nil _ _, rfl⟩, Below.refl _ _⟩
  case round =>
    obtain ⟨k, hk, rfl, ⟨Aa, ca, bs, rfl, Ho, hbs⟩, Hb⟩ := hrel
    by_cases h1 : k < l.length
    · obtain ⟨bk, off, rfl, hcells⟩ := (hR.out.ext Hb.out).some_ h1
      obtain ⟨Ax, cx, hcell, okx⟩ := hcells k h1
      have hle := flat_le (l := l) (k + 1)
      rw [hN.out, flat_succ h1, List.length_append, ← hbs.out] at hle
      have hf := Lib.hid (flat_succ h1)
      rw [← hbs.out] at hf
      obtain ⟨x, hx⟩ : ∃ x, l[k] = x := ⟨_, rfl⟩
      rw [hx] at hf hle hcell okx
      clear hcells
      replace hx := Lib.hid hx
      replace okx := Lib.hid okx
      go_wp2_with (at_builtin; refine append_any _ rfl (.tmp 11) (.tmp 15) 22 rfl w.heap.size i0 Try.underlying22 hi hz0 hz1 hz2 Aa ca bs rfl Ho.out Ax cx x rfl okx.out (by omega) Hb.out.size ?_; intro Ab cb bb wb kb hob hgb)
      exact ⟨⟨k + 1, by omega, congrArg (Value.int .i64) (by omega), ⟨Ab, cb, bb, rfl, hob, kb.out.trans hf.out.symm⟩, bl_grown Hb.out hgb (OwnB.low Ho.out (Nat.le_refl _))⟩, by show l.length - ((k : Int) + 1).toNat < l.length - ((k : Int)).toNat; omega⟩
    · have hke : k = l.length := by omega
      subst hke
      rw [List.take_length] at hbs
      go_wp2_with fail
      go_ret
      exact ⟨⟨Aa, ca, ret_sl (by rw [hbs.out]), by rw [← hbs.out]; exact Ho⟩, Hb⟩
end Go.Proofs.Ytlcclaicodghcaa
