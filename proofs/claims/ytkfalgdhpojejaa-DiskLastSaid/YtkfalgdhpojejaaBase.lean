import Derived.Test.YtkfalgdhpojejaaRows
import Derived.WalkKit
import Derived.WalkSpells
import Derived.WalkLawsBesides
import Derived.Lib.Hide
import Derived.Deep.QuietTactic
import Derived.BigQuiet
import Derived.Deep.LoopGhost
import Derived.Deep.DeepFit
import Derived.Laws.EntriesVeiled
namespace Go.Proofs.Ytkfalgdhpojejaa
open Go.RowKit

/-- Bytes that lie in memory at an address. -/
def RB (w : World) (A : Option Addr) (bs : List UInt8) : Prop :=
  bs = [] ∨ ∃ b off, A = some ⟨b, off, none⟩ ∧ ∀ i (h : i < bs.length), w.cell? ⟨b, off + i, none⟩ = some (.int .u8 bs[i].toNat)

theorem cell_ext {w w' : World} (hb : Below w.heap.size w w') {a : Addr} {v : Value} (h : w.cell? a = some v) : w'.cell? a = some v :=
  (hb.cell (World.block_lt_of_cell? w a h)).trans h

theorem RB.ext {w w' : World} {A : Option Addr} {bs : List UInt8} (h : RB w A bs) (hb : Below w.heap.size w w') : RB w' A bs := by
  rcases h with h | ⟨b, off, h1, h2⟩
  · exact .inl h
  · exact .inr ⟨b, off, h1, fun i hi => cell_ext hb (h2 i hi)⟩

/-- A slice value that reads as bytes. -/
def VB (w : World) (v : Value) (bs : List UInt8) : Prop := ∃ A c, v = .slice A bs.length c ∧ bs.length ≤ c ∧ bs.length ≤ 140737488351232 ∧ RB w A bs
theorem VB.ext {w w' : World} {v : Value} {bs : List UInt8} (h : VB w v bs) (hb : Below w.heap.size w w') : VB w' v bs := by
  obtain ⟨A, c, h1, h2, h3, h4⟩ := h
  exact ⟨A, c, h1, h2, h3, h4.ext hb⟩

/-- A row of slices of bytes. -/
def RBB (w : World) (A : Option Addr) (l : List (List UInt8)) : Prop :=
  l = [] ∨ ∃ b off, A = some ⟨b, off, none⟩ ∧ ∀ i (h : i < l.length), ∃ v, w.cell? ⟨b, off + i, none⟩ = some v ∧ VB w v l[i]
theorem RBB.ext {w w' : World} {A : Option Addr} {l : List (List UInt8)} (h : RBB w A l) (hb : Below w.heap.size w w') : RBB w' A l := by
  rcases h with h | ⟨b, off, h1, h2⟩
  · exact .inl h
  · refine .inr ⟨b, off, h1, fun i hi => ?_⟩
    obtain ⟨v, h3, h4⟩ := h2 i hi
    exact ⟨v, cell_ext hb h3, h4.ext hb⟩

/-- Writes: each a place and bytes. -/
abbrev PutD := Int × List UInt8
def RP (w : World) (A : Option Addr) (l : List PutD) : Prop :=
  l = [] ∨ ∃ b off, A = some ⟨b, off, none⟩ ∧ ∀ i (h : i < l.length), w.cell? ⟨b, off + i * 2, none⟩ = some (.int .i64 l[i].1) ∧ ∃ v, w.cell? ⟨b, off + i * 2 + 1, none⟩ = some v ∧ VB w v l[i].2
theorem RP.ext {w w' : World} {A : Option Addr} {l : List PutD} (h : RP w A l) (hb : Below w.heap.size w w') : RP w' A l := by
  rcases h with h | ⟨b, off, h1, h2⟩
  · exact .inl h
  · refine .inr ⟨b, off, h1, fun i hi => ?_⟩
    obtain ⟨h3, v, h4, h5⟩ := h2 i hi
    exact ⟨cell_ext hb h3, v, cell_ext hb h4, h5.ext hb⟩

/-! ### Searches -/
/-- None of the first k has it. -/
def Upto {α : Type} (p : α → Bool) (l : List α) (k : Nat) : Prop := ∀ j (hj : j < l.length), j < k → p l[j] = false
theorem Upto.zero {α : Type} (p : α → Bool) (l : List α) : Upto p l 0 := fun _ _ h => absurd h (Nat.not_lt_zero _)
theorem Upto.succ {α : Type} {p : α → Bool} {l : List α} {k : Nat} (h : Upto p l k) (hk : k < l.length) (hp : p l[k] = false) : Upto p l (k + 1) := by
  intro j hj hlt
  rcases Nat.lt_or_ge j k with h' | h'
  · exact h j hj h'
  · obtain rfl : j = k := by omega
    exact hp
theorem Upto.any {α : Type} {p : α → Bool} {l : List α} {k : Nat} (h : Upto p l k) (hk : l.length ≤ k) : l.any p = false :=
  List.any_eq_false.2 fun x hx => by obtain ⟨j, hj, rfl⟩ := List.getElem_of_mem hx; simp [h j hj (by omega)]
theorem any_at {α : Type} {p : α → Bool} {l : List α} {k : Nat} (hk : k < l.length) (hp : p l[k] = true) : l.any p = true :=
  List.any_eq_true.2 ⟨_, List.getElem_mem hk, hp⟩
theorem RBB.some_ {w : World} {A : Option Addr} {l : List (List UInt8)} (h : RBB w A l) {k : Nat} (hk : k < l.length) :
    ∃ b off, A = some ⟨b, off, none⟩ ∧ ∃ A' c', w.cell? ⟨b, off + k, none⟩ = some (.slice A' l[k].length c') ∧ l[k].length ≤ c' ∧ l[k].length ≤ 140737488351232 ∧ RB w A' l[k] := by
  rcases h with rfl | ⟨b, off, h1, h2⟩
  · simp at hk
  · obtain ⟨v, h3, A', c', rfl, h4, h5, h6⟩ := h2 k hk
    exact ⟨b, off, h1, A', c', h3, h4, h5, h6⟩
theorem RP.some_ {w : World} {A : Option Addr} {l : List PutD} (h : RP w A l) {k : Nat} (hk : k < l.length) :
    ∃ b off, A = some ⟨b, off, none⟩ ∧ w.cell? ⟨b, off + k * 2, none⟩ = some (.int .i64 l[k].1) ∧ ∃ A' c', w.cell? ⟨b, off + k * 2 + 1, none⟩ = some (.slice A' l[k].2.length c') ∧ l[k].2.length ≤ c' ∧ l[k].2.length ≤ 140737488351232 ∧ RB w A' l[k].2 := by
  rcases h with rfl | ⟨b, off, h1, h2⟩
  · simp at hk
  · obtain ⟨h0, v, h3, A', c', rfl, h4, h5, h6⟩ := h2 k hk
    exact ⟨b, off, h1, h0, A', c', h3, h4, h5, h6⟩

/-! ### Worlds that only grow -/
theorem bl_alloc {w W : World} (h : Below w.heap.size w W) (o : Obj) : Below w.heap.size w (W.alloc o) := h.alloc h.size o
theorem bl_then {w w1 w2 : World} (h : Below w.heap.size w w1) (k : Below w1.heap.size w1 w2) : Below w.heap.size w w2 :=
  h.trans ⟨k.os, k.tape, k.output, k.size, fun i hi => k.block i (Nat.lt_of_lt_of_le hi h.size)⟩
theorem bl_set {w W : World} (h : Below w.heap.size w W) {p : Addr} (hp : w.heap.size ≤ p.block) (u : Value) : Below w.heap.size w (W.setCell p u) := h.setCell hp u
theorem bl_drew {w W : World} (h : Below w.heap.size w W) : Below w.heap.size w W.drew := h.drew
theorem bl_drewN {w W : World} (h : Below w.heap.size w W) (n : Nat) : Below w.heap.size w (W.drewN n) := ⟨h.os, h.tape, h.output, h.size, h.block⟩
theorem bl_grown {w W W' : World} (h : Below w.heap.size w W) {row : Option Nat} (hg : W.grownBy W' row) (hr : ∀ k, row = some k → w.heap.size ≤ k) : Below w.heap.size w W' := h.grown hg h.size hr

/-- The two rules by which the walk reads old cells in a world of which only 'Below' is known. -/
theorem bcell {W w1 : World} (hb : Below W.heap.size W w1) : (∀ b o, b < W.heap.size → w1.cell? ⟨b, o, none⟩ = W.cell? ⟨b, o, none⟩) ∧ (∀ b o, b < W.heap.size → w1.frozen? ⟨b, o, none⟩ = W.frozen? ⟨b, o, none⟩) ∧ W.heap.size ≤ w1.heap.size :=
  ⟨fun b o h => hb.cell (p := ⟨b, o, none⟩) h, fun b o h => hb.frozen (p := ⟨b, o, none⟩) h, hb.size⟩
theorem blk_lt {w : World} {b o : Nat} {v : Value} (h : w.cell? ⟨b, o, none⟩ = some v) : b < w.heap.size := World.block_lt_of_cell? w ⟨b, o, none⟩ h

end Go.Proofs.Ytkfalgdhpojejaa
