import Derived.Test.YtkfalgdhpojejaaG
namespace Go.Proofs.Ytkfalgdhpojejaa
open Go.RowKit

/-- What lies in the blocks that a call laid first, in every later world. -/
theorem box1 {w w1 : World} {c1 : Array Value} {t1 : TypeId} (hb : Below (w.alloc (.cells c1 t1)).heap.size (w.alloc (.cells c1 t1)) w1) :
    (∀ o, w1.cell? ⟨w.heap.size, o, none⟩ = c1[o]?) ∧ (∀ o, w1.frozen? ⟨w.heap.size, o, none⟩ = false) ∧ w.heap.size < w1.heap.size := by
  refine ⟨fun o => ?_, fun o => ?_, ?_⟩
  · rw [hb.cell (p := ⟨w.heap.size, o, none⟩) (by simp)]; simp
  · rw [hb.frozen (p := ⟨w.heap.size, o, none⟩) (by simp)]; simp
  · have := hb.size; simp at this; omega
theorem box2 {w w1 : World} {c1 c2 : Array Value} {t1 t2 : TypeId} (hb : Below ((w.alloc (.cells c1 t1)).alloc (.cells c2 t2)).heap.size ((w.alloc (.cells c1 t1)).alloc (.cells c2 t2)) w1) :
    (∀ o, w1.cell? ⟨w.heap.size, o, none⟩ = c1[o]?) ∧ (∀ o, w1.frozen? ⟨w.heap.size, o, none⟩ = false) ∧ (∀ o, w1.cell? ⟨w.heap.size + 1, o, none⟩ = c2[o]?) ∧ (∀ o, w1.frozen? ⟨w.heap.size + 1, o, none⟩ = false) ∧ w.heap.size + 1 < w1.heap.size := by
  refine ⟨fun o => ?_, fun o => ?_, fun o => ?_, fun o => ?_, ?_⟩
  · rw [hb.cell (p := ⟨w.heap.size, o, none⟩) (by simp; omega)]; simp
  · rw [hb.frozen (p := ⟨w.heap.size, o, none⟩) (by simp; omega)]; simp
  · rw [hb.cell (p := ⟨w.heap.size + 1, o, none⟩) (by simp)]; simp
  · rw [hb.frozen (p := ⟨w.heap.size + 1, o, none⟩) (by simp)]; simp
  · have := hb.size; simp at this; omega

/-! ### Data and the blocks in which it lies -/
/-- The blocks of a kind are as they were. -/
def Kept (φ : Nat → Prop) (w w' : World) : Prop := ∀ b, φ b → b < w.heap.size → w'.heap[b]? = w.heap[b]?
theorem Kept.refl (φ : Nat → Prop) (w : World) : Kept φ w w := fun _ _ _ => rfl
theorem Kept.below {w w' : World} (φ : Nat → Prop) (h : Below w.heap.size w w') : Kept φ w w' := fun b _ hb => h.block b hb
theorem Kept.then_ {φ : Nat → Prop} {w w1 w2 : World} (h : Kept φ w w1) (hs : w.heap.size ≤ w1.heap.size) (k : Kept φ w1 w2) : Kept φ w w2 :=
  fun b hb hl => (k b hb (Nat.lt_of_lt_of_le hl hs)).trans (h b hb hl)
theorem Kept.set {φ : Nat → Prop} {w w' : World} (h : Kept φ w w') {p : Addr} (hp : ¬ φ p.block) (v : Value) : Kept φ w (w'.setCell p v) := by
  intro b hb hl
  have hne : b ≠ p.block := by rintro rfl; exact hp hb
  rw [Below.heap_setCell _ _ _ _ hne]
  exact h b hb hl
theorem Kept.mono {φ ψ : Nat → Prop} {w w' : World} (h : Kept ψ w w') (hm : ∀ b, φ b → ψ b) : Kept φ w w' := fun b hb hl => h b (hm b hb) hl
theorem Kept.cell {φ : Nat → Prop} {w w' : World} (h : Kept φ w w') {b o : Nat} {v : Value} (hb : φ b) (hc : w.cell? ⟨b, o, none⟩ = some v) : w'.cell? ⟨b, o, none⟩ = some v :=
  (World.cell?_of_block (w := w) (h b hb (blk_lt hc))).trans hc

def RBF (φ : Nat → Prop) (w : World) (A : Option Addr) (bs : List UInt8) : Prop :=
  bs = [] ∨ ∃ b off, φ b ∧ A = some ⟨b, off, none⟩ ∧ ∀ i (h : i < bs.length), w.cell? ⟨b, off + i, none⟩ = some (.int .u8 bs[i].toNat)
theorem RBF.plain {φ : Nat → Prop} {w : World} {A : Option Addr} {bs : List UInt8} (h : RBF φ w A bs) : RB w A bs := h.imp id fun ⟨b, off, _, h1, h2⟩ => ⟨b, off, h1, h2⟩
theorem RBF.kept {φ : Nat → Prop} {w w' : World} {A : Option Addr} {bs : List UInt8} (h : RBF φ w A bs) (hk : Kept φ w w') : RBF φ w' A bs :=
  h.imp id fun ⟨b, off, hb, h1, h2⟩ => ⟨b, off, hb, h1, fun i hi => hk.cell hb (h2 i hi)⟩
theorem RBF.mono {φ ψ : Nat → Prop} {w : World} {A : Option Addr} {bs : List UInt8} (h : RBF φ w A bs) (hm : ∀ b, φ b → ψ b) : RBF ψ w A bs :=
  h.imp id fun ⟨b, off, hb, h1, h2⟩ => ⟨b, off, hm b hb, h1, h2⟩
theorem RB.foot {w : World} {A : Option Addr} {bs : List UInt8} (h : RB w A bs) : RBF (· < w.heap.size) w A bs := by
  rcases h with h | ⟨b, off, h1, h2⟩
  · exact .inl h
  · cases bs with
    | nil => exact .inl rfl
    | cons x l => exact .inr ⟨b, off, blk_lt (h2 0 (by simp)), h1, h2⟩

def VBF (φ : Nat → Prop) (w : World) (v : Value) (bs : List UInt8) : Prop := ∃ A c, v = .slice A bs.length c ∧ bs.length ≤ c ∧ bs.length ≤ 140737488351232 ∧ RBF φ w A bs
theorem VBF.plain {φ : Nat → Prop} {w : World} {v : Value} {bs : List UInt8} (h : VBF φ w v bs) : VB w v bs := let ⟨A, c, h1, h2, h3, h4⟩ := h; ⟨A, c, h1, h2, h3, h4.plain⟩
theorem VBF.kept {φ : Nat → Prop} {w w' : World} {v : Value} {bs : List UInt8} (h : VBF φ w v bs) (hk : Kept φ w w') : VBF φ w' v bs := let ⟨A, c, h1, h2, h3, h4⟩ := h; ⟨A, c, h1, h2, h3, h4.kept hk⟩
theorem VBF.mono {φ ψ : Nat → Prop} {w : World} {v : Value} {bs : List UInt8} (h : VBF φ w v bs) (hm : ∀ b, φ b → ψ b) : VBF ψ w v bs := let ⟨A, c, h1, h2, h3, h4⟩ := h; ⟨A, c, h1, h2, h3, h4.mono hm⟩
theorem VB.foot {w : World} {v : Value} {bs : List UInt8} (h : VB w v bs) : VBF (· < w.heap.size) w v bs := let ⟨A, c, h1, h2, h3, h4⟩ := h; ⟨A, c, h1, h2, h3, h4.foot⟩

def RBBF (φ : Nat → Prop) (w : World) (A : Option Addr) (l : List (List UInt8)) : Prop :=
  l = [] ∨ ∃ b off, φ b ∧ A = some ⟨b, off, none⟩ ∧ ∀ i (h : i < l.length), ∃ v, w.cell? ⟨b, off + i, none⟩ = some v ∧ VBF φ w v l[i]
theorem RBBF.plain {φ : Nat → Prop} {w : World} {A : Option Addr} {l : List (List UInt8)} (h : RBBF φ w A l) : RBB w A l :=
  h.imp id fun ⟨b, off, _, h1, h2⟩ => ⟨b, off, h1, fun i hi => let ⟨v, h3, h4⟩ := h2 i hi; ⟨v, h3, h4.plain⟩⟩
theorem RBBF.kept {φ : Nat → Prop} {w w' : World} {A : Option Addr} {l : List (List UInt8)} (h : RBBF φ w A l) (hk : Kept φ w w') : RBBF φ w' A l :=
  h.imp id fun ⟨b, off, hb, h1, h2⟩ => ⟨b, off, hb, h1, fun i hi => let ⟨v, h3, h4⟩ := h2 i hi; ⟨v, hk.cell hb h3, h4.kept hk⟩⟩
theorem RBBF.mono {φ ψ : Nat → Prop} {w : World} {A : Option Addr} {l : List (List UInt8)} (h : RBBF φ w A l) (hm : ∀ b, φ b → ψ b) : RBBF ψ w A l :=
  h.imp id fun ⟨b, off, hb, h1, h2⟩ => ⟨b, off, hm b hb, h1, fun i hi => let ⟨v, h3, h4⟩ := h2 i hi; ⟨v, h3, h4.mono hm⟩⟩
theorem RBB.foot {w : World} {A : Option Addr} {l : List (List UInt8)} (h : RBB w A l) : RBBF (· < w.heap.size) w A l := by
  rcases h with h | ⟨b, off, h1, h2⟩
  · exact .inl h
  · cases l with
    | nil => exact .inl rfl
    | cons x l =>
      obtain ⟨v, h3, _⟩ := h2 0 (by simp)
      exact .inr ⟨b, off, blk_lt h3, h1, fun i hi => let ⟨v, h3, h4⟩ := h2 i hi; ⟨v, h3, h4.foot⟩⟩

/-- The cells of writes. -/
def PutCells (φ : Nat → Prop) (w : World) (cs : List Value) (l : List PutD) : Prop :=
  cs.length = l.length * 2 ∧ ∀ i (h : i < l.length), cs[i * 2]? = some (.int .i64 l[i].1) ∧ ∃ v, cs[i * 2 + 1]? = some v ∧ VBF φ w v l[i].2
theorem PutCells.kept {φ : Nat → Prop} {w w' : World} {cs : List Value} {l : List PutD} (h : PutCells φ w cs l) (hk : Kept φ w w') : PutCells φ w' cs l :=
  ⟨h.1, fun i hi => let ⟨h1, v, h2, h3⟩ := h.2 i hi; ⟨h1, v, h2, h3.kept hk⟩⟩
theorem PutCells.mono {φ ψ : Nat → Prop} {w : World} {cs : List Value} {l : List PutD} (h : PutCells φ w cs l) (hm : ∀ b, φ b → ψ b) : PutCells ψ w cs l :=
  ⟨h.1, fun i hi => let ⟨h1, v, h2, h3⟩ := h.2 i hi; ⟨h1, v, h2, h3.mono hm⟩⟩
theorem PutCells.nil (φ : Nat → Prop) (w : World) : PutCells φ w [] [] := ⟨rfl, fun _ h => absurd h (Nat.not_lt_zero _)⟩
def RPF (φ : Nat → Prop) (w : World) (A : Option Addr) (l : List PutD) : Prop :=
  l = [] ∨ ∃ b off cs, φ b ∧ A = some ⟨b, off, none⟩ ∧ PutCells φ w cs l ∧ ∀ j u, cs[j]? = some u → w.cell? ⟨b, off + j, none⟩ = some u
theorem RPF.kept {φ : Nat → Prop} {w w' : World} {A : Option Addr} {l : List PutD} (h : RPF φ w A l) (hk : Kept φ w w') : RPF φ w' A l :=
  h.imp id fun ⟨b, off, cs, hb, h1, h2, h3⟩ => ⟨b, off, cs, hb, h1, h2.kept hk, fun j u hu => hk.cell hb (h3 j u hu)⟩
theorem RPF.mono {φ ψ : Nat → Prop} {w : World} {A : Option Addr} {l : List PutD} (h : RPF φ w A l) (hm : ∀ b, φ b → ψ b) : RPF ψ w A l :=
  h.imp id fun ⟨b, off, cs, hb, h1, h2, h3⟩ => ⟨b, off, cs, hm b hb, h1, h2.mono hm, h3⟩
theorem RPF.plain {φ : Nat → Prop} {w : World} {A : Option Addr} {l : List PutD} (h : RPF φ w A l) : RP w A l :=
  h.imp id fun ⟨b, off, cs, _, h1, h2, h3⟩ => ⟨b, off, h1, fun i hi => by
    obtain ⟨h4, v, h5, h6⟩ := h2.2 i hi
    exact ⟨h3 _ _ h4, v, by rw [Nat.add_assoc]; exact h3 _ _ h5, h6.plain⟩⟩

theorem plain_add (b off j : Nat) : (⟨b, off, none⟩ : Addr).add j = ⟨b, off + j, none⟩ := by unfold Addr.add; split <;> simp_all

theorem RP.foot {w : World} {A : Option Addr} {l : List PutD} (h : RP w A l) : RPF (· < w.heap.size) w A l := by
  rcases h with rfl | ⟨b, off, rfl, h2⟩
  · exact .inl rfl
  · cases hl : l with
    | nil => exact .inl rfl
    | cons x l' =>
      rw [← hl]
      have hb : b < w.heap.size := blk_lt (h2 0 (by rw [hl]; simp)).1
      refine .inr ⟨b, off, (List.range (l.length * 2)).map fun j => (w.cell? ⟨b, off + j, none⟩).getD undef, hb, rfl, ⟨by simp, fun i hi => ?_⟩, fun j u hu => ?_⟩
      · obtain ⟨h0, v, h1, h3⟩ := h2 i hi
        have l1 : i * 2 < l.length * 2 := by omega
        have l2 : i * 2 + 1 < l.length * 2 := by omega
        refine ⟨?_, v, ?_, h3.foot⟩
        · simp [l1, h0]
        · simp [l2, ← Nat.add_assoc, h1]
      · have hj : j < l.length * 2 := by
          rcases Nat.lt_or_ge j (l.length * 2) with h | h
          · exact h
          · simp [h] at hu
        have hex : ∃ x, w.cell? ⟨b, off + j, none⟩ = some x := by
          obtain ⟨h0, v, h1, h3⟩ := h2 (j / 2) (by omega)
          rcases Nat.mod_two_eq_zero_or_one j with hm | hm
          · exact ⟨_, by rw [← h0]; congr 2; omega⟩
          · exact ⟨_, by rw [← h1]; congr 2; omega⟩
        obtain ⟨x, hx⟩ := hex
        simp [hj, hx] at hu
        rw [hx, hu]

theorem RPF.cells {φ : Nat → Prop} {w : World} {A : Option Addr} {l : List PutD} (h : RPF φ w A l) : ∃ cs, PutCells φ w cs l ∧ ∀ a, A = some a → ∀ j u, cs[j]? = some u → w.cell? (a.add j) = some u := by
  rcases h with rfl | ⟨b, off, cs, _, rfl, h2, h3⟩
  · exact ⟨[], PutCells.nil φ w, fun _ _ j u h => by simp at h⟩
  · exact ⟨cs, h2, fun a ha j u hu => by cases ha; rw [plain_add]; exact h3 j u hu⟩

theorem PutCells.oneCell {φ : Nat → Prop} {w : World} {cs : List Value} {l : List PutD} (h : PutCells φ w cs l) : ∀ u ∈ cs, u.oneCell' = true := by
  intro u hu
  obtain ⟨j, hj, rfl⟩ := List.getElem_of_mem hu
  have hj2 : j / 2 < l.length := by have := h.1; omega
  obtain ⟨h0, v, h1, A, c, rfl, _⟩ := h.2 (j / 2) hj2
  rcases Nat.mod_two_eq_zero_or_one j with hm | hm
  · rw [show j / 2 * 2 = j by omega, List.getElem?_eq_getElem hj] at h0
    rw [Option.some.inj h0]; rfl
  · rw [show j / 2 * 2 + 1 = j by omega, List.getElem?_eq_getElem hj] at h1
    rw [Option.some.inj h1]; rfl

theorem PutCells.snoc {φ : Nat → Prop} {w : World} {cs : List Value} {l : List PutD} (h : PutCells φ w cs l) {at_ : Int} {v : Value} {bs : List UInt8} (hv : VBF φ w v bs) : PutCells φ w (cs ++ [.int .i64 at_, v]) (l ++ [(at_, bs)]) := by
  have hl := h.1
  refine ⟨by simp [hl]; omega, fun i hi => ?_⟩
  simp at hi
  rcases Nat.lt_or_ge i l.length with hlt | hge
  · obtain ⟨h0, u, h1, h2⟩ := h.2 i hlt
    refine ⟨?_, u, ?_, ?_⟩
    · rw [List.getElem?_append_left (by omega), h0, List.getElem_append_left hlt]
    · rw [List.getElem?_append_left (by omega), h1]
    · rw [List.getElem_append_left hlt]; exact h2
  · obtain rfl : i = l.length := by omega
    refine ⟨?_, v, ?_, ?_⟩
    · rw [List.getElem?_append_right (by omega), hl]; simp
    · rw [List.getElem?_append_right (by omega), show l.length * 2 + 1 - cs.length = 1 by omega]; simp
    · simpa using hv

theorem rp_own {φ : Nat → Prop} {W : World} {base n : Nat} {v : Value} {xs : List Value} {l : List PutD} (h : W.ownsRow base 55 2 v n xs) (hp : PutCells φ W xs l) (hφ : ∀ b, base ≤ b → φ b) :
    ∃ A c, v = .slice A l.length c ∧ l.length ≤ c ∧ (A = none → c = 0) ∧ RPF φ W A l := by
  have hn : n = l.length := by have h1 := h.1; have h2 := hp.1; omega
  subst hn
  rcases h.2 with ⟨rfl, h0⟩ | ⟨g, cap, cur, rfl, hg, hh, h1, h2, h3, h4⟩
  · exact ⟨none, 0, by rw [h0], by omega, fun _ => rfl, .inl (List.length_eq_zero_iff.1 h0)⟩
  · refine ⟨some ⟨g, 0, none⟩, cap, rfl, h1, fun h => (by cases h), .inr ⟨g, 0, xs, hφ g hg, rfl, hp, fun j u hu => ?_⟩⟩
    have hj : j < xs.length := by
      rcases Nat.lt_or_ge j xs.length with h | h
      · exact h
      · simp [h] at hu
    rw [Nat.zero_add, h.cellAt j (by rw [← h.1]; exact hj), hu]

theorem vbf_own {φ : Nat → Prop} {W : World} {base : Nat} {v : Value} {bs : List UInt8} (h : W.ownsRow base 5 1 v bs.length (bs.map encB)) (hl : bs.length ≤ 140737488351232) (hφ : ∀ b, base ≤ b → φ b) : VBF φ W v bs := by
  rcases h.2 with ⟨rfl, h0⟩ | ⟨g, cap, cur, rfl, hg, hh, h1, h2, h3, h4⟩
  · exact ⟨none, 0, by rw [h0], by omega, hl, .inl (List.length_eq_zero_iff.1 h0)⟩
  · refine ⟨some ⟨g, 0, none⟩, cap, rfl, h1, hl, .inr ⟨g, 0, hφ g hg, rfl, fun i hi => ?_⟩⟩
    have := h.cellAt i (by omega)
    rw [Nat.zero_add, this]
    simp [encB, hi]

/-- A disk's value, its data in memory. -/
def VD (φ : Nat → Prop) (w : World) (v : Value) (B : List (List UInt8)) (P : List PutD) (f : Int) : Prop :=
  ∃ AB cb AP cp, v = .agg #[.slice AB B.length cb, .slice AP P.length cp, .int .i64 f] ∧ P.length ≤ cp ∧ (AP = none → cp = 0) ∧ RBBF φ w AB B ∧ RPF φ w AP P
theorem VD.kept {φ : Nat → Prop} {w w' : World} {v : Value} {B : List (List UInt8)} {P : List PutD} {f : Int} (h : VD φ w v B P f) (hk : Kept φ w w') : VD φ w' v B P f := by
  obtain ⟨AB, cb, AP, cp, h1, h2, h3, h4, h5⟩ := h
  exact ⟨AB, cb, AP, cp, h1, h2, h3, h4.kept hk, h5.kept hk⟩
theorem VD.mono {φ ψ : Nat → Prop} {w : World} {v : Value} {B : List (List UInt8)} {P : List PutD} {f : Int} (h : VD φ w v B P f) (hm : ∀ b, φ b → ψ b) : VD ψ w v B P f := by
  obtain ⟨AB, cb, AP, cp, h1, h2, h3, h4, h5⟩ := h
  exact ⟨AB, cb, AP, cp, h1, h2, h3, h4.mono hm, h5.mono hm⟩

/-- The blocks of a kind that lie below s, and those from s + k on: all but what a call laid first. -/
def Aw (φ : Nat → Prop) (s k b : Nat) : Prop := (φ b ∧ b < s) ∨ s + k ≤ b
theorem Aw.low {φ : Nat → Prop} {s k : Nat} : ∀ b, (φ b ∧ b < s) → Aw φ s k b := fun _ h => .inl h
theorem Aw.high {φ : Nat → Prop} {s k n : Nat} (h : s + k ≤ n) : ∀ b, n ≤ b → Aw φ s k b := fun _ hb => .inr (Nat.le_trans h hb)
theorem Aw.no {φ : Nat → Prop} {s k j : Nat} (hj : j < k) : ¬ Aw φ s k (s + j) := by rintro (h | h) <;> omega
theorem Aw.no0 {φ : Nat → Prop} {s k : Nat} (hj : 0 < k) : ¬ Aw φ s k s := by rintro (h | h) <;> omega
theorem Aw.out {φ : Nat → Prop} {s k : Nat} : ∀ b, Aw φ s k b → φ b ∨ s ≤ b := fun b h => h.elim (fun h => .inl h.1) (fun h => .inr (by omega))
theorem RBF.low {φ : Nat → Prop} {w : World} {A : Option Addr} {bs : List UInt8} (h : RBF φ w A bs) : RBF (fun b => φ b ∧ b < w.heap.size) w A bs := by
  rcases h with h | ⟨b, off, hb, h1, h2⟩
  · exact .inl h
  · cases bs with
    | nil => exact .inl rfl
    | cons x l => exact .inr ⟨b, off, ⟨hb, blk_lt (h2 0 (by simp))⟩, h1, h2⟩
theorem VBF.low {φ : Nat → Prop} {w : World} {v : Value} {bs : List UInt8} (h : VBF φ w v bs) : VBF (fun b => φ b ∧ b < w.heap.size) w v bs := let ⟨A, c, h1, h2, h3, h4⟩ := h; ⟨A, c, h1, h2, h3, h4.low⟩
theorem RBBF.low {φ : Nat → Prop} {w : World} {A : Option Addr} {l : List (List UInt8)} (h : RBBF φ w A l) : RBBF (fun b => φ b ∧ b < w.heap.size) w A l := by
  rcases h with h | ⟨b, off, hb, h1, h2⟩
  · exact .inl h
  · cases l with
    | nil => exact .inl rfl
    | cons x l =>
      obtain ⟨v, h3, _⟩ := h2 0 (by simp)
      exact .inr ⟨b, off, ⟨hb, blk_lt h3⟩, h1, fun i hi => let ⟨v, h3, h4⟩ := h2 i hi; ⟨v, h3, h4.low⟩⟩
theorem PutCells.low {φ : Nat → Prop} {w : World} {cs : List Value} {l : List PutD} (h : PutCells φ w cs l) : PutCells (fun b => φ b ∧ b < w.heap.size) w cs l :=
  ⟨h.1, fun i hi => let ⟨h1, v, h2, h3⟩ := h.2 i hi; ⟨h1, v, h2, h3.low⟩⟩
theorem RPF.low {φ : Nat → Prop} {w : World} {A : Option Addr} {l : List PutD} (h : RPF φ w A l) : RPF (fun b => φ b ∧ b < w.heap.size) w A l := by
  rcases h with h | ⟨b, off, cs, hb, h1, h2, h3⟩
  · exact .inl h
  · cases l with
    | nil => exact .inl rfl
    | cons x l => exact .inr ⟨b, off, cs, ⟨hb, blk_lt (h3 0 _ (h2.2 0 (by simp)).1)⟩, h1, h2.low, h3⟩

theorem info55 : (Try.prog.info? 55).map (fun i => (i.zero, i.size, i.bytes)) = some (some (.agg #[.int .i64 0, .slice none 0 0]), 2, 32) := by kernel_rfl

set_option maxHeartbeats 400000 in
theorem clone_any (A : Option Addr) (c : Nat) (bs : List UInt8) (w : World) (hR : RB w A bs) (hl : bs.length ≤ 140737488351232) :
    Calls Try.prog 42 #[.slice A bs.length c] w fun e w' => (∃ v, e = .returned v ∧ VBF (w.heap.size ≤ ·) w' v bs) ∧ Below w.heap.size w w' := by
  have heq := Lib.run_eql_slice_nil (P := Try.prog) w 37 5 A bs.length c 0 0 Try.underlying37
  cases A with
  | none =>
    have Hn := Lib.hid hR.none_
    clear hR
    go_enter Try.func42, Try.ntmps42
    go_wp2_with fail
    go_ret
    exact ⟨⟨_, rfl, none, 0, by rw [Hn.out]; rfl, by rw [Hn.out]; exact Nat.le_refl _, hl, .inl Hn.out⟩, Below.refl _ _⟩
  | some a =>
    have HR := Lib.hid hR
    clear hR
    obtain ⟨i0, hi, hz0, hz1, hz2⟩ := info_parts info5
    have Hb1 := Lib.hid (bl_alloc (Below.refl w.heap.size w) (.cells #[] 5))
    have Hown := Lib.hid (World.ownsRow_lit (base := w.heap.size) (e := 5) (size := 1) w #[] 0 (Nat.le_refl _) (by simp [maxLen]) rfl)
    go_enter Try.func42, Try.ntmps42
    go_wp2_with (at_builtin; refine wpList_append_own _ rfl _ _ 37 rfl w.heap.size 5 i0 (.int .u8 0) 1 1 Try.underlying37 hi hz0 hz1 hz2 rfl (by decide) _ 0 [] rfl Hown.out a bs.length c (bs.map encB) rfl (by simp) (HR.out.ext Hb1.out).news (encB_one bs) (by simp only [maxLen]; omega) (by omega) (by simp) ?_; intro v' w1 hown' hgrow _)
    go_ret
    exact ⟨⟨v', rfl, vbf_own (by simpa using hown') hl (fun _ h => h)⟩, bl_grown Hb1.out hgrow (fun k hk => by cases hk; exact Nat.le_refl _)⟩
end Go.Proofs.Ytkfalgdhpojejaa
