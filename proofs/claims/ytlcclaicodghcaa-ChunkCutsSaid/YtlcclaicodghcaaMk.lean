import Derived.Test.YtlcclaicodghcaaCk
import Derived.Test.YtlcclaicodghcaaPe
namespace Go.Proofs.Ytlcclaicodghcaa
open Go.RowKit

/-- The world behind '[]byte("..")' of a constant: its block is marked. -/
def markAt (W : World) (g : Nat) : World := match W.shape? g with
  | some (_, n) => W.freeze ⟨g, n, none⟩ 1
  | none => W
theorem conv_run (g n c : Nat) (W : World) : (convert 22 22 (.slice (some ⟨g, 0, none⟩) n c)).run Try.prog W = .ok (.slice (some ⟨g, 0, none⟩) n c) (markAt W g) := by
  have h22 : ∀ W, (underlying 22).run Try.prog W = .ok (TypeDesc.slice 5) W := fun W => by simp [underlying, Try.underlying22]
  have h5 : ∀ W, (underlying 5).run Try.prog W = .ok (TypeDesc.int .u8) W := fun W => by simp [underlying, Try.underlying5]
  unfold convert
  simp only [Sem.run_bind, h22, Result.andThen, h5, beq_self_eq_true, markStringish]
  unfold markAt
  cases h : W.shape? g with
  | none => simp [shape, Sem.run, h]
  | some p => obtain ⟨t, k⟩ := p; simp [shape, Sem.run, h]
theorem freeze_heap (W : World) (g k i : Nat) : (W.freeze ⟨g, k, none⟩ 1).heap[i]? = if i = g then (W.heap[i]?).map (fun o => match o with | .cells c e (lo, hi) => .cells c e (if lo == hi then (k, k + 1) else (min lo k, max hi (k + 1))) | o => o) else W.heap[i]? := by
  unfold World.freeze
  rw [if_neg (by decide)]
  simp only [Array.getElem?_modify]
  by_cases h : i = g
  · subst h; simp; rfl
  · rw [if_neg (fun e => h e.symm), if_neg h]
theorem mark_cell (W : World) (g : Nat) (p : Addr) : (markAt W g).cell? p = W.cell? p := by
  unfold markAt
  split
  · rename_i n _
    unfold World.cell?
    rw [freeze_heap]
    by_cases h : p.block = g
    · rw [if_pos h]
      cases h2 : W.heap[p.block]? with
      | none => rfl
      | some o => cases o <;> rfl
    · rw [if_neg h]
  · rfl
theorem mark_size (W : World) (g : Nat) : (markAt W g).heap.size = W.heap.size := by
  unfold markAt
  split
  · unfold World.freeze; rw [if_neg (by decide)]; simp
  · rfl
theorem bl_mark {w W : World} {b : Nat} (h : Below b w W) {g : Nat} (hg : b ≤ g) : Below b w (markAt W g) := by
  have hs := mark_size W g
  refine ⟨?_, ?_, ?_, by rw [hs]; exact h.size, fun i hi => ?_⟩
  · unfold markAt; split
    · unfold World.freeze; rw [if_neg (by decide)]; exact h.os
    · exact h.os
  · unfold markAt; split
    · unfold World.freeze; rw [if_neg (by decide)]; exact h.tape
    · exact h.tape
  · unfold markAt; split
    · unfold World.freeze; rw [if_neg (by decide)]; exact h.output
    · exact h.output
  · rw [← h.block i hi]
    unfold markAt; split
    · rw [freeze_heap, if_neg (by omega)]
    · rfl
/-- Worlds in which what was laid reads as it did. -/
def Reads (w w' : World) : Prop := ∀ b o v, w.cell? ⟨b, o, none⟩ = some v → w'.cell? ⟨b, o, none⟩ = some v
theorem Reads.refl (w : World) : Reads w w := fun _ _ _ h => h
theorem Reads.trans {w w1 w2 : World} (h : Reads w w1) (k : Reads w1 w2) : Reads w w2 := fun b o v e => k b o v (h b o v e)
theorem Reads.below {w w1 w2 : World} (h : Reads w w1) (hb : Below w1.heap.size w1 w2) : Reads w w2 := fun b o v e => cell_ext hb (h b o v e)
theorem Reads.mark {w w1 : World} (h : Reads w w1) (g : Nat) : Reads w (markAt w1 g) := fun b o v e => by rw [mark_cell]; exact h b o v e
theorem Reads.alloc {w w1 : World} (h : Reads w w1) (o : Obj) : Reads w (w1.alloc o) := h.below (bl_alloc (Below.refl _ _) _)
theorem Reads.drew {w w1 : World} (h : Reads w w1) : Reads w w1.drew := h.below (bl_drew (Below.refl _ _))
theorem OkB.reads {w w' : World} {A : Option Addr} {c : Nat} {bs : List UInt8} (h : OkB w A c bs) (k : Reads w w') : OkB w' A c bs := by
  refine ⟨?_, h.2⟩
  rcases h.1 with h1 | ⟨b, off, h1, h2⟩
  · exact .inl h1
  · exact .inr ⟨b, off, h1, fun i hi => k _ _ _ (h2 i hi)⟩
end Go.Proofs.Ytlcclaicodghcaa
