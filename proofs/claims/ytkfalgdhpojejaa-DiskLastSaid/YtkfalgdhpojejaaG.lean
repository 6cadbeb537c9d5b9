import Derived.Test.YtkfalgdhpojejaaD
import Derived.Laws.AppendOwnNone
namespace Go.Proofs.Ytkfalgdhpojejaa
open Go.RowKit

def encB (b : UInt8) : Value := .int .u8 (b.toNat : Int)

theorem vb_own {W : World} {base : Nat} {v : Value} {bs : List UInt8} (h : W.ownsRow base 5 1 v bs.length (bs.map encB)) (hl : bs.length ≤ 140737488351232) : VB W v bs := by
  rcases h.2 with ⟨rfl, h0⟩ | ⟨g, cap, cur, rfl, hg, hh, h1, h2, h3, h4⟩
  · exact ⟨none, 0, by rw [h0], by omega, hl, .inl (List.length_eq_zero_iff.1 h0)⟩
  · refine ⟨some ⟨g, 0, none⟩, cap, rfl, h1, hl, .inr ⟨g, 0, rfl, fun i hi => ?_⟩⟩
    have := h.cellAt i (by omega)
    rw [Nat.zero_add, this]
    simp [encB, hi]

theorem info5 : (Try.prog.info? 5).map (fun i => (i.zero, i.size, i.bytes)) = some (some (.int .u8 0), 1, 1) := by kernel_rfl

theorem RB.none_ {w : World} {bs : List UInt8} (h : RB w none bs) : bs = [] := by
  rcases h with h | ⟨b, off, h, _⟩
  · exact h
  · cases h

theorem RB.news {w : World} {a : Addr} {bs : List UInt8} (h : RB w (some a) bs) : ∀ j u, (bs.map encB)[j]? = some u → w.cell? (a.add j) = some u := by
  rcases h with rfl | ⟨b, off, h1, h2⟩
  · simp
  · cases h1
    intro j u hj
    have hjl : j < bs.length := by
      rcases Nat.lt_or_ge j bs.length with h | h
      · exact h
      · simp [h] at hj
    have e : (⟨b, off, none⟩ : Addr).add j = ⟨b, off + j, none⟩ := by unfold Addr.add; split <;> simp_all
    rw [e, h2 j hjl]
    simp [hjl, encB] at hj
    rw [hj]

theorem encB_one (bs : List UInt8) : ∀ u ∈ bs.map encB, u.oneCell' = true := by
  intro u hu
  obtain ⟨x, _, rfl⟩ := List.mem_map.1 hu
  rfl

set_option maxHeartbeats 400000 in
theorem clip_any (A : Option Addr) (n c : Nat) (w : World) (hl : n ≤ c) :
    Calls Try.prog 43 #[.slice A n c] w fun e w' => e = .returned (.slice A n n) ∧ w = w' := by
    go_enter Try.func43, Try.ntmps43
    go_wp2_with fail
    go_ret
    exact ⟨rfl, rfl⟩
end Go.Proofs.Ytkfalgdhpojejaa
