import Derived.Test.YtlcclaicodghcaaI
namespace Go.Proofs.Ytlcclaicodghcaa
open Go.RowKit

theorem txt_len (x : List UInt8) : (txt x).length = 2 * x.length := by
  unfold txt
  induction x with
  | nil => rfl
  | cons a l ih => rw [List.flatMap_cons, List.length_append, ih]; simp; omega
theorem txt_snoc (x : List UInt8) (y : UInt8) : txt (x ++ [y]) = txt x ++ [fig (y.toNat / 16)] ++ [fig (y.toNat % 16)] := by
  unfold txt; rw [List.flatMap_append]; simp

theorem figs2 : ∀ k (h : k < 16), (⟨#[48, 49, 50, 51, 52, 53, 54, 55, 56, 57, 97, 98, 99, 100, 101, 102]⟩ : ByteArray)[k] = fig k := by decide
theorem and15 (y : Nat) (h : y ≤ 255) : bits .and .u8 (y : Int) 15 = ((y % 16 : Nat) : Int) := by
  have key : ∀ y, y < 256 → bits .and .u8 ((y : Nat) : Int) 15 = ((y % 16 : Nat) : Int) := by decide +kernel
  exact key y (by omega)
set_option maxRecDepth 20000 in
set_option maxHeartbeats 1000000 in
theorem text_any (A : Option Addr) (c : Nat) (x : List UInt8) (w : World) (hok : OkB w A c x) (hx : x.length ≤ 1000000) :
    Calls Try.prog 31 #[.slice A x.length c] w fun e w' => e = .returned (.string (strOf (txt x))) ∧ Below w.heap.size w w' := by
  have HR := Lib.hid hok
  clear hok
  have hI0 := Lib.hid (Lib.fresh_isBuilder 110 5 w)
  have Hb0 := Lib.hid (bl_alloc (Below.refl w.heap.size w) (.cells #[.pointer none, .slice none 0 0] 110))
  go_enter Try.func31, Try.ntmps31
  go_wp2_with fail
  go_loopw [8] (fun i wr => ∃ k : Nat, k ≤ x.length ∧ i = .int .i64 k ∧ Hid (Lib.IsBuilder 110 5 w.heap.size w.heap.size (Lib.byteCells (txt (x.take k))) wr) ∧ Hid (Below w.heap.size w wr)) (fun i _ => x.length - (intOf i).toNat)
  case atStart => exact ⟨0, Nat.zero_le _, rfl, by simpa [txt, Lib.byteCells] using hI0, Hb0.out⟩
  case round =>
    obtain ⟨k, hk, rfl, HI, Hb⟩ := hrel
    by_cases hlt : k < x.length
    · obtain ⟨bk, off, rfl, hcell⟩ := HR.out.some_ hlt
      have hc := cell_ext Hb (hcell k hlt)
      obtain ⟨y, hy⟩ : ∃ y, x[k] = y := ⟨_, rfl⟩
      rw [hy] at hc
      have hy1 : y.toNat ≤ 255 := by have := y.toNat_lt; omega
      clear hcell
      have ha := and15 y.toNat hy1
      have e1 := Lib.hid (figs2 (y.toNat / 16) (by omega))
      have e2 := Lib.hid (figs2 (y.toNat % 16) (by omega))
      have hl2 := txt_len (x.take k)
      have hl3 : (x.take k).length ≤ k := List.length_take_le _ _
      have hs := Lib.hid (show txt (x.take (k + 1)) = txt (x.take k) ++ [fig (y.toNat / 16)] ++ [fig (y.toNat % 16)] by rw [List.take_succ_eq_append_getElem hlt, hy, txt_snoc])
      have hl4 := Lib.hid (show (Lib.byteCells (txt (x.take k))).length ≤ 2000000 by rw [Lib.byteCells_length]; omega)
      clear hy hl2
      go_wp2_with fail
      refine (writeByte_any w.heap.size w.heap.size _ _ wr HI (by have := hl4.out; omega) Hb.size).mono ?_
      rintro e w1 ⟨rfl, h1, b1⟩
      rw [e1.out] at h1
      have H1 := Lib.hid h1
      have B1 := Lib.hid (Hb.trans b1)
      have hy1' := y.toNat_lt
      clear h1 b1
      go_wp2_with fail
      refine (writeByte_any w.heap.size w.heap.size _ _ w1 (Or.inr H1.out) (by have := hl4.out; simp; omega) B1.out.size).mono ?_
      rintro e w2 ⟨rfl, h2, b2⟩
      rw [e2.out] at h2
      have H2 := Lib.hid h2
      have B2 := Lib.hid (B1.out.trans b2)
      clear h2 b2
      go_wp2_with fail
      go_roundw
      case rel =>
        refine ⟨k + 1, by omega, by go_num, ?_, B2.out⟩
        rw [hs.out, Lib.byteCells_append, Lib.byteCells_append]
        exact Or.inr H2.out
      case measure => simp [intOf]; omega
    · have HE : Hid (x.take k = x) := List.take_of_length_le (by omega)
      have H3 := Lib.hid (HE.out ▸ HI.out)
      go_wp2_with (go_at_call 66; refine (string_any w.heap.size w.heap.size (txt x) _ H3.out Hb.size).mono ?_; rintro e w3 ⟨rfl, b3⟩)
      go_ret
      exact ⟨rfl, Hb.out.trans b3⟩
end Go.Proofs.Ytlcclaicodghcaa
