import Derived.Test.YtkfalgdhpojejaaC
namespace Go.Proofs.Ytkfalgdhpojejaa
open Go.RowKit

/-- The first k are the same. -/
def Eqto {α : Type} (l l' : List α) (k : Nat) : Prop := ∀ j (h : j < l.length) (h' : j < l'.length), j < k → l[j] = l'[j]
theorem Eqto.zero {α : Type} (l l' : List α) : Eqto l l' 0 := fun _ _ _ h => absurd h (Nat.not_lt_zero _)
theorem Eqto.succ {α : Type} {l l' : List α} {k : Nat} (h : Eqto l l' k) (hk : k < l.length) (hk' : k < l'.length) (e : l[k] = l'[k]) : Eqto l l' (k + 1) := by
  intro j hj hj' hlt
  rcases Nat.lt_or_ge j k with h' | h'
  · exact h j hj hj' h'
  · obtain rfl : j = k := by omega
    exact e
theorem Eqto.eq {α : Type} {l l' : List α} {k : Nat} (h : Eqto l l' k) (hl : l.length = l'.length) (hk : l.length ≤ k) : l = l' :=
  List.ext_getElem hl fun i h1 h2 => h i h1 h2 (by omega)
theorem ne_at {α : Type} {l l' : List α} {k : Nat} (hk : k < l.length) (hk' : k < l'.length) (e : ¬ l[k] = l'[k]) : ¬ l = l' := by
  rintro rfl; exact e rfl

set_option maxHeartbeats 400000 in
theorem equal39_any (A : Option Addr) (c : Nat) (l : List (List UInt8)) (A' : Option Addr) (c' : Nat) (l' : List (List UInt8)) (w : World) (hl : l.length ≤ 140737488351232) (hR : RBB w A l) (hR' : RBB w A' l') :
    Calls Try.prog 39 #[.slice A l.length c, .slice A' l'.length c', .func (.func 38) #[] #[]] w fun e w' => e = .returned (.bool (decide (l = l'))) ∧ w = w' := by
  have HR := Lib.hid hR
  have HR' := Lib.hid hR'
  clear hR hR'
  by_cases hlen : l.length = l'.length
  · have Hlen := Lib.hid hlen
    have hn : ((l.length : Int) != (l'.length : Int)) = false := by simp [hlen]
    clear hlen
    go_enter Try.func39, Try.ntmps39
    go_wp2_with fail
    go_loop [17] (fun i => ∃ k : Nat, k ≤ l.length ∧ i = .int .i64 k ∧ Eqto l l' k) (fun i => l.length - (intOf i).toNat)
    case atStart => exact ⟨0, Nat.zero_le _, rfl, Eqto.zero _ _⟩
    case round =>
      obtain ⟨k, hk, rfl, Hr⟩ := hrel
      by_cases hlt : k < l.length
      · have hlt' : k < l'.length := by have := Hlen.out; omega
        obtain ⟨b, off, rfl, A1, c1, hv1, hl1, hl2, hR1⟩ := HR.out.some_ hlt
        obtain ⟨b', off', rfl, A2, c2, hv2, hl3, hl4, hR2⟩ := HR'.out.some_ hlt'
        have HC := Lib.hid (equal_any A1 c1 l[k] A2 c2 l'[k] w hR1 hR2)
        clear hR1 hR2 hl1 hl2 hl3 hl4
        cases he : l[k] == l'[k]
        · rw [he] at HC
          have Hs := Lib.hid (ne_at hlt hlt' (by simpa using he))
          clear he
          go_wp2_with (go_at_call 38; refine HC.out.mono ?_; rintro e w' ⟨rfl, rfl⟩)
          go_ret
          exact ⟨ret_bool (by rw [decide_eq_false Hs.out]), rfl⟩
        · rw [he] at HC
          have He := Lib.hid (eq_of_beq he)
          clear he
          go_wp2_with (go_at_call 38; refine HC.out.mono ?_; rintro e w' ⟨rfl, rfl⟩)
          go_round
          case rel => exact ⟨k + 1, by omega, by go_num, Hr.succ hlt hlt' He.out⟩
          case measure => simp [intOf]; omega
      · go_wp2_with fail
        go_ret
        exact ⟨ret_bool (by rw [decide_eq_true (Hr.eq Hlen.out (by omega))]), rfl⟩
  · have hn : ((l.length : Int) != (l'.length : Int)) = true := by rw [ne_cast]; simpa using hlen
    have Hs : Hid (decide (l = l') = false) := decide_eq_false (by rintro rfl; exact hlen rfl)
    clear hlen
    go_enter Try.func39, Try.ntmps39
    go_wp2_with fail
    go_ret
    exact ⟨ret_bool (by rw [Hs.out]), rfl⟩

set_option maxHeartbeats 400000 in
theorem same37_any (i i' : Int) (A : Option Addr) (c : Nat) (x : List UInt8) (A' : Option Addr) (c' : Nat) (y : List UInt8) (w : World) (hx : RB w A x) (hy : RB w A' y) :
    Calls Try.prog 37 #[.agg #[.int .i64 i, .slice A x.length c], .agg #[.int .i64 i', .slice A' y.length c']] w fun e w' => e = .returned (.bool ((i, x) == (i', y))) ∧ Below w.heap.size w w' := by
  have hb0 := bl_alloc (bl_alloc (Below.refl w.heap.size w) (.cells #[.int .i64 i, .slice A x.length c] 55)) (.cells #[.int .i64 i', .slice A' y.length c'] 55)
  have HC := Lib.hid (equal_any A c x A' c' y _ (hx.ext hb0) (hy.ext hb0))
  have Hb0 := Lib.hid hb0
  clear hx hy hb0
  cases hi : i == i'
  · have Hs : Hid (((i, x) == (i', y)) = false) := by show (i == i' && x == y) = false; rw [hi]; rfl
    go_enter Try.func37, Try.ntmps37
    go_wp2_with fail
    go_ret
    exact ⟨ret_bool (by rw [Hs.out]), Hb0.out⟩
  · have Hs : Hid (((i, x) == (i', y)) = (x == y)) := by show (i == i' && x == y) = (x == y); rw [hi]; rfl
    go_enter Try.func37, Try.ntmps37
    go_wp2_with (go_at_call 38; refine HC.out.mono ?_; rintro e w' ⟨rfl, rfl⟩)
    go_ret
    exact ⟨ret_bool (by rw [Hs.out]), Hb0.out⟩

set_option maxHeartbeats 400000 in
theorem equal40_any (A : Option Addr) (c : Nat) (l : List PutD) (A' : Option Addr) (c' : Nat) (l' : List PutD) (w : World) (hl : l.length ≤ 140737488351232) (hR : RP w A l) (hR' : RP w A' l') :
    Calls Try.prog 40 #[.slice A l.length c, .slice A' l'.length c', .func (.func 37) #[] #[]] w fun e w' => e = .returned (.bool (decide (l = l'))) ∧ Below w.heap.size w w' := by
  have HR := Lib.hid hR
  have HR' := Lib.hid hR'
  clear hR hR'
  by_cases hlen : l.length = l'.length
  · have Hlen := Lib.hid hlen
    have hn : ((l.length : Int) != (l'.length : Int)) = false := by simp [hlen]
    clear hlen
    go_enter Try.func40, Try.ntmps40
    go_wp2_with fail
    go_loopw [17] (fun i wr => ∃ k : Nat, k ≤ l.length ∧ i = .int .i64 k ∧ Eqto l l' k ∧ Hid (Below w.heap.size w wr)) (fun i _ => l.length - (intOf i).toNat)
    case atStart => exact ⟨0, Nat.zero_le _, rfl, Eqto.zero _ _, Below.refl _ _⟩
    case round =>
      obtain ⟨k, hk, rfl, Hr, Hb⟩ := hrel
      by_cases hlt : k < l.length
      · have hlt' : k < l'.length := by have := Hlen.out; omega
        obtain ⟨b, off, rfl, hv0, A1, c1, hv1, hl1, hl2, hR1⟩ := HR.out.some_ hlt
        obtain ⟨b', off', rfl, hv2, A2, c2, hv3, hl3, hl4, hR2⟩ := HR'.out.some_ hlt'
        replace hv0 := cell_ext Hb hv0
        replace hv1 := cell_ext Hb hv1
        replace hv2 := cell_ext Hb hv2
        replace hv3 := cell_ext Hb hv3
        have hB := blk_lt hv0
        have hB' := blk_lt hv2
        have Hb2 : Hid (Below w.heap.size w ((wr.alloc (.cells #[.int .i64 l[k].1, .slice A1 l[k].2.length c1] 55)).alloc (.cells #[.int .i64 l'[k].1, .slice A2 l'[k].2.length c2] 55))) := bl_alloc (bl_alloc Hb _) _
        have hC := same37_any l[k].1 l'[k].1 A1 c1 l[k].2 A2 c2 l'[k].2 _ (hR1.ext Hb2) (hR2.ext Hb2)
        clear hR1 hR2 hl1 hl2 hl3 hl4
        rw [show ((l[k].1, l[k].2) == (l'[k].1, l'[k].2)) = (l[k] == l'[k]) from rfl] at hC
        have HC := Lib.hid hC
        clear hC
        cases he : l[k] == l'[k]
        case' true =>
          rw [he] at HC
          have He := Lib.hid (eq_of_beq he)
          clear he
          go_wp2_with (go_at_call 37; refine HC.out.mono ?_; rintro e w' ⟨rfl, hb⟩; have Hb3 := Lib.hid hb; clear hb)
          go_roundw
          case rel => exact ⟨k + 1, by omega, by go_num, Hr.succ hlt hlt' He.out, bl_then Hb2 Hb3.out⟩
          case measure => simp [intOf]; omega
        case' false =>
          rw [he] at HC
          have Hs := Lib.hid (ne_at hlt hlt' (fun e => by rw [e] at he; simp at he))
          clear he
          go_wp2_with (go_at_call 37; refine HC.out.mono ?_; rintro e w' ⟨rfl, hb⟩; have Hb3 := Lib.hid hb; clear hb)
          go_ret
          exact ⟨ret_bool (by rw [decide_eq_false Hs.out]), bl_then Hb2 Hb3.out⟩
      · go_wp2_with fail
        go_ret
        exact ⟨ret_bool (by rw [decide_eq_true (Hr.eq Hlen.out (by omega))]), Hb⟩
  · have hn : ((l.length : Int) != (l'.length : Int)) = true := by rw [ne_cast]; simpa using hlen
    have Hs : Hid (decide (l = l') = false) := decide_eq_false (by rintro rfl; exact hlen rfl)
    clear hlen
    go_enter Try.func40, Try.ntmps40
    go_wp2_with fail
    go_ret
    exact ⟨ret_bool (by rw [Hs.out]), Below.refl _ _⟩
end Go.Proofs.Ytkfalgdhpojejaa
