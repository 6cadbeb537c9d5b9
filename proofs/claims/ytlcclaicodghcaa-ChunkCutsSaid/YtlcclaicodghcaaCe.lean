import Derived.Test.YtlcclaicodghcaaCd
namespace Go.Proofs.Ytlcclaicodghcaa
open Go.RowKit

/-- The values of the pieces so far. -/
def PiecesAt (w : World) (b : List UInt8) (k : Nat) (vs : List Value) : Prop := vs.length = k ∧ ∀ i, i < k → ∃ v, vs[i]? = some v ∧ VB w v (pieceB b i)
theorem PiecesAt.zero (w : World) (b : List UInt8) : PiecesAt w b 0 [] := ⟨rfl, fun _ h => absurd h (Nat.not_lt_zero _)⟩
theorem PiecesAt.succ {w : World} {b : List UInt8} {k : Nat} {vs : List Value} (h : PiecesAt w b k vs) {v : Value} (hv : VB w v (pieceB b k)) : PiecesAt w b (k + 1) (vs ++ [v]) := by
  refine ⟨by simp [h.1], fun i hi => ?_⟩
  by_cases e : i = k
  · subst e; exact ⟨v, by rw [List.getElem?_append_right (by rw [h.1]; omega), h.1]; simp, hv⟩
  · obtain ⟨u, h1, h2⟩ := h.2 i (by omega)
    exact ⟨u, by rw [List.getElem?_append_left (by rw [h.1]; omega)]; exact h1, h2⟩
theorem PiecesAt.rbb {w w' : World} {base : Nat} {b : List UInt8} {A : Option Addr} {c k : Nat} {vs : List Value} (h : PiecesAt w b k vs) (hk : k = splitN b) (ho : OwnV w' base 22 1 A k c vs) (hb : Below w.heap.size w w') : RBB w' A (splitB b) := by
  refine rbb_own ho (by rw [splitB_len, hk]) fun i hi => ?_
  rw [splitB_len] at hi
  obtain ⟨v, h1, h2⟩ := h.2 i (by omega)
  exact ⟨v, h1, by rw [splitB_get]; exact h2.ext hb⟩

theorem OkB.takeCap {w : World} {ad : Addr} {c : Nat} {x : List UInt8} (h : OkB w (some ad) c x) {M : Nat} (hM : M ≤ x.length) : OkB w (some ad) M (x.take M) :=
  ⟨(h.take M).1, by rw [List.length_take]; omega, (h.take M).2.2.1, fun e => by cases e⟩
theorem OkB.drop {w : World} {bk off c : Nat} {x : List UInt8} (h : OkB w (some ⟨bk, off, none⟩) c x) {M : Nat} (hM : M ≤ x.length) : OkB w (if c = M then some ⟨bk, off, none⟩ else some ⟨bk, off + M, none⟩) (c - M) (x.drop M) := by
  have h1 := h.2.1
  have h2 := h.2.2.1
  refine ⟨?_, by rw [List.length_drop]; omega, by rw [List.length_drop]; omega, fun e => by split at e <;> cases e⟩
  by_cases hc : c = M
  · exact .inl (List.drop_of_length_le (by omega))
  · rw [if_neg hc]
    by_cases h0 : M < x.length
    · obtain ⟨b, o, e, hx⟩ := h.some_ h0
      cases e
      refine .inr ⟨bk, off + M, rfl, fun i hi => ?_⟩
      rw [List.length_drop] at hi
      rw [Nat.add_assoc, hx (M + i) (by omega)]
      simp
    · exact .inl (List.drop_of_length_le (by omega))

set_option maxRecDepth 20000 in
set_option maxHeartbeats 4000000 in
/-- Bytes in rows. -/
theorem split_any (A : Option Addr) (c : Nat) (b : List UInt8) (w : World) (hok : OkB w A c b) (hl : b.length ≤ 1000000) :
    Calls Try.prog 58 #[.slice A b.length c] w fun e w' => (∃ A' c', e = .returned (.slice A' (splitB b).length c') ∧ RBB w' A' (splitB b)) ∧ Below w.heap.size w w' := by
  rw [splitB_len]
  obtain ⟨i0, hi, hz0, hz1, hz2⟩ := info_parts info22
  have hN : splitN b = (b.length + 255) / 256 := rfl
  obtain ⟨N, hNe⟩ : ∃ N, splitN b = N := ⟨_, rfl⟩
  rw [hNe] at hN ⊢
  replace hNe := Lib.hid hNe
  replace hok := Lib.hid hok
  go_enter Try.func58, Try.ntmps58
  go_wp2_with fail
  go_loopw [0, 3] (fun r o wr => ∃ k : Nat, k ≤ N ∧ (∃ Ar cr x, r = .slice Ar (List.length x) cr ∧ Hid (OkB w Ar cr x) ∧ Hid (x = b.drop (256 * k)) ∧ Hid (x.length = b.length - 256 * k)) ∧ (∃ Ao co vs, o = .slice Ao k co ∧ Hid (OwnV wr w.heap.size 22 1 Ao k co vs) ∧ Hid (PiecesAt w b k vs)) ∧ Hid (Below w.heap.size w wr)) (fun r _ _ => match r with | .slice _ n _ => n | _ => 0)
  case atStart => exact ⟨0, Nat.zero_le _, ⟨A, c, b, rfl, hok, rfl, rfl⟩, ⟨none, 0, [], rfl, OwnV.nil _ _ _ _, PiecesAt.zero _ _⟩, Below.refl _ _⟩
  case round =>
    obtain ⟨k, hk, ⟨Ar, cr, x, rfl, Hx, hxe, hxl⟩, ⟨Ao, co, vs, rfl, Ho, Hp⟩, Hb⟩ := hrel
    by_cases h0 : 0 < x.length
    · obtain ⟨bk, off, hA, hcx⟩ := Hx.out.some_ h0
      subst hA
      have hcap := Hx.out.2.1
      have hcap2 := Hx.out.2.2.1
      have hkN : k < N := by have := hxl.out; omega
      have hpl := Lib.hid (pieceB_len b k)
      obtain ⟨M, hM⟩ : ∃ M : Nat, min x.length 256 = M := ⟨_, rfl⟩
      have hM1 : min (x.length : Int) 256 = (M : Int) := by omega
      have hM2 : M ≤ x.length := by omega
      have hM3 : 0 < M := by omega
      replace hM := Lib.hid hM
      have hP : Hid (pieceB b k = x.take M) := by
        show _ = _
        unfold pieceB
        rw [← hxe.out, ← hM.out]
        by_cases h : x.length ≤ 256
        · rw [Nat.min_eq_left h, List.take_of_length_le h, List.take_of_length_le (Nat.le_refl _)]
        · rw [Nat.min_eq_right (by omega)]
      go_wp2_with (at_builtin; refine append_new _ #[.slice (some ⟨bk, off, none⟩) M M] rfl (.tmp 11) (.tmp 16) 54 rfl w.heap.size 22 i0 (.slice none 0 0) 1 24 Try.underlying54 hi hz0 hz1 hz2 rfl (by decide) Ao k co vs rfl Ho.out 1 rfl rfl (by simp [Value.oneCell']) (by unfold maxLen; omega) (by omega) Hb.out.size ?_; intro A2 c2 w2 Ho2 Hb2)
      have hk2 : x.length - M = (b.drop (256 * (k + 1))).length := by have := hxl.out; have := hM.out; rw [List.length_drop]; omega
      refine ⟨⟨k + 1, by omega, ⟨_, _, x.drop M, by rw [List.length_drop], Hx.out.drop hM2, ?_, ?_⟩, ⟨A2, c2, _, rfl, Ho2, Hp.out.succ (v := .slice (some ⟨bk, off, none⟩) M M) ⟨some ⟨bk, off, none⟩, M, ?_, ?_⟩⟩, Hb.out.trans Hb2.out⟩, by show x.length - M < x.length; omega⟩
      · show _ = _
        have h7 := hxl.out
        have h8 := hM.out
        by_cases h : 256 ≤ x.length
        · rw [show M = 256 by omega, hxe.out, List.drop_drop, show 256 * k + 256 = 256 * (k + 1) by omega]
        · rw [List.drop_of_length_le (by omega), List.drop_of_length_le (by omega)]
      · show _ = _; rw [List.length_drop, hk2, List.length_drop]
      · rw [hP.out, List.length_take, Nat.min_eq_left hM2]
      · rw [hP.out]; exact Hx.out.takeCap hM2
    · have hkN : k = N := by have := hxl.out; omega
      go_wp2_with fail
      go_ret
      exact ⟨⟨Ao, co, ret_sl hkN, Hp.out.rbb (hkN.trans hNe.out.symm) Ho.out Hb.out⟩, Hb⟩
end Go.Proofs.Ytlcclaicodghcaa
