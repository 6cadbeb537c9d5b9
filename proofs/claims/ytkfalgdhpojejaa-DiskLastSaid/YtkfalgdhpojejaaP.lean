import Derived.Test.YtkfalgdhpojejaaN
import Derived.Deep.RegionLaw
import Derived.BigRegion
namespace Go.Proofs.Ytkfalgdhpojejaa
open Go.RowKit

theorem fill_split (k : Nat) (n : UInt8) (hk : k < 64) : (List.replicate k n ++ List.replicate (64 - k) 0).map encB = List.replicate k (encB n) ++ encB 0 :: List.replicate (64 - (k + 1)) (encB 0) := by
  rw [show 64 - k = (64 - (k + 1)) + 1 by omega, List.replicate_succ]; simp
theorem fill_at (k : Nat) (n : UInt8) (hk : k < 64) : ((List.replicate k n ++ List.replicate (64 - k) 0).map encB)[k]? = some (encB 0) := by
  rw [fill_split k n hk, List.getElem?_append_right (by simp)]; simp
theorem fill_step (k : Nat) (n : UInt8) (hk : k < 64) : ((List.replicate k n ++ List.replicate (64 - k) 0).map encB).set k (encB n) = (List.replicate (k + 1) n ++ List.replicate (64 - (k + 1)) 0).map encB := by
  rw [fill_split k n hk, List.set_append_right _ _ (by simp)]; simp [List.replicate_succ']
theorem made_u8 (n : Nat) : (madeCells (Value.int IntKind.u8 0).cells (n * 1)).toList = (List.replicate n (0 : UInt8)).map encB := by
  rw [Nat.mul_one, show (Value.int IntKind.u8 0).cells = #[.int .u8 0] from rfl, toList_madeCells_one]; simp [encB]

set_option maxHeartbeats 1000000 in
theorem block_any (n : UInt8) (w : World) :
    Calls Try.prog 31 #[.int .u8 (n.toNat : Int)] w fun e w' => (∃ v, e = .returned v ∧ VBF (w.heap.size ≤ ·) w' v (List.replicate 64 n)) ∧ Below w.heap.size w w' := by
  obtain ⟨i0, hi, hz0, hz1, hz2⟩ := info_parts info5
  go_enter Try.func31, Try.ntmps31
  go_wp2_with (at_make; refine wpList_make_full _ rfl _ _ 37 rfl w.heap.size 5 i0 (.int .u8 0) 1 Try.underlying37 hi hz0 hz1 .i64 .i64 _ _ 64 rfl rfl rfl rfl (by rw [hz2]; omega) (by simp only [maxLen]; omega) (Nat.le_refl _) ?_; intro w1 hown1 hgrow1; have Hb1 := Lib.hid (bl_grown (Below.refl _ _) hgrow1 (fun k hk => by cases hk)); have Ho1 := Lib.hid hown1; clear hgrow1 hown1)
  go_loopw [4] (fun i wr => ∃ k : Nat, k ≤ 64 ∧ i = .int .i64 k ∧ Hid (wr.ownsRow w.heap.size 5 1 (.slice (some ⟨w.heap.size, 0, none⟩) 64 64) 64 ((List.replicate k n ++ List.replicate (64 - k) 0).map encB)) ∧ Hid (Below w.heap.size w wr)) (fun i _ => 64 - (intOf i).toNat)
  case atStart => exact ⟨0, Nat.zero_le _, rfl, by have h := Ho1.out; rw [made_u8] at h; exact h, Hb1.out⟩
  case round =>
    obtain ⟨k, hk, rfl, Ho, Hb⟩ := hrel
    by_cases hlt : k < 64
    · have hce := Ho.cellAt k (by omega)
      have hfe := Ho.frozenAt k
      have hx := fill_at k n hlt
      rw [hx] at hce
      clear hx
      go_wp2_with fail
      go_roundw
      case rel =>
        refine ⟨k + 1, by omega, by go_num, ?_, bl_set Hb (Nat.le_refl _) _⟩
        rw [← fill_step k n hlt]
        exact (Ho.stored k (.int .u8 (n.toNat : Int))).1
      case measure => simp [intOf]; omega
    · have hk' : k = 64 := by omega
      subst hk'
      go_wp2_with fail
      go_ret
      exact ⟨⟨_, rfl, vbf_own (by simpa using Ho.out) (by simp) (fun _ h => h)⟩, Hb⟩
end Go.Proofs.Ytkfalgdhpojejaa
