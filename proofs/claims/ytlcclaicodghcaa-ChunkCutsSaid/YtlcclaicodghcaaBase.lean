import Derived.Test.YtlcclaicodghcaaRows
import Derived.Test.YtlcclaicodghcaaNa
import Derived.WalkKit
import Derived.WalkSpells
import Derived.WalkLawsBesides
import Derived.Lib.Hide
import Derived.Deep.QuietTactic
import Derived.BigQuiet
import Derived.Deep.LoopGhost
import Derived.Deep.DeepFit
import Derived.Laws.EntriesVeiled
import Derived.Laws.AppendOwnNone
import Derived.Deep.AppendLies
import Derived.OwnWalk
namespace Go.Proofs.Ytlcclaicodghcaa
open Go.RowKit

theorem cell_ext {w w' : World} (hb : Below w.heap.size w w') {a : Addr} {v : Value} (h : w.cell? a = some v) : w'.cell? a = some v :=
  (hb.cell (World.block_lt_of_cell? w a h)).trans h
theorem blk_lt {w : World} {b o : Nat} {v : Value} (h : w.cell? ⟨b, o, none⟩ = some v) : b < w.heap.size := World.block_lt_of_cell? w ⟨b, o, none⟩ h
theorem plain_add (b off j : Nat) : (⟨b, off, none⟩ : Addr).add j = ⟨b, off + j, none⟩ := by unfold Addr.add; split <;> simp_all

/-! ### Worlds that only grow -/
theorem bl_alloc {w W : World} (h : Below w.heap.size w W) (o : Obj) : Below w.heap.size w (W.alloc o) := h.alloc h.size o
theorem bl_then {w w1 w2 : World} (h : Below w.heap.size w w1) (k : Below w1.heap.size w1 w2) : Below w.heap.size w w2 :=
  h.trans ⟨k.os, k.tape, k.output, k.size, fun i hi => k.block i (Nat.lt_of_lt_of_le hi h.size)⟩
theorem bl_set {w W : World} (h : Below w.heap.size w W) {p : Addr} (hp : w.heap.size ≤ p.block) (u : Value) : Below w.heap.size w (W.setCell p u) := h.setCell hp u
theorem bl_drew {w W : World} (h : Below w.heap.size w W) : Below w.heap.size w W.drew := h.drew
theorem bl_drewN {w W : World} (h : Below w.heap.size w W) (n : Nat) : Below w.heap.size w (W.drewN n) := ⟨h.os, h.tape, h.output, h.size, h.block⟩
theorem bl_grown {w W W' : World} (h : Below w.heap.size w W) {row : Option Nat} (hg : W.grownBy W' row) (hr : ∀ k, row = some k → w.heap.size ≤ k) : Below w.heap.size w W' := h.grown hg h.size hr
theorem bcell {W w1 : World} (hb : Below W.heap.size W w1) : (∀ b o, b < W.heap.size → w1.cell? ⟨b, o, none⟩ = W.cell? ⟨b, o, none⟩) ∧ (∀ b o, b < W.heap.size → w1.frozen? ⟨b, o, none⟩ = W.frozen? ⟨b, o, none⟩) ∧ W.heap.size ≤ w1.heap.size :=
  ⟨fun b o h => hb.cell (p := ⟨b, o, none⟩) h, fun b o h => hb.frozen (p := ⟨b, o, none⟩) h, hb.size⟩

/-! ### Bytes in memory -/
/-- Bytes that lie in memory at an address. -/
def RB (w : World) (A : Option Addr) (bs : List UInt8) : Prop :=
  bs = [] ∨ ∃ b off, A = some ⟨b, off, none⟩ ∧ ∀ i (h : i < bs.length), w.cell? ⟨b, off + i, none⟩ = some (.int .u8 bs[i].toNat)
theorem RB.ext {w w' : World} {A : Option Addr} {bs : List UInt8} (h : RB w A bs) (hb : Below w.heap.size w w') : RB w' A bs := by
  rcases h with h | ⟨b, off, h1, h2⟩
  · exact .inl h
  · exact .inr ⟨b, off, h1, fun i hi => cell_ext hb (h2 i hi)⟩
/-- What a slice of bytes holds. -/
def OkB (w : World) (A : Option Addr) (c : Nat) (bs : List UInt8) : Prop := RB w A bs ∧ bs.length ≤ c ∧ bs.length ≤ 140737488351232 ∧ (A = none → c = 0)
theorem OkB.ext {w w' : World} {A : Option Addr} {c : Nat} {bs : List UInt8} (h : OkB w A c bs) (hb : Below w.heap.size w w') : OkB w' A c bs := ⟨h.1.ext hb, h.2⟩
theorem OkB.nil (w : World) : OkB w none 0 [] := ⟨.inl rfl, Nat.le_refl _, Nat.zero_le _, fun _ => rfl⟩
theorem OkB.some_ {w : World} {A : Option Addr} {c : Nat} {bs : List UInt8} (h : OkB w A c bs) {k : Nat} (hk : k < bs.length) :
    ∃ b off, A = some ⟨b, off, none⟩ ∧ ∀ i (_ : i < bs.length), w.cell? ⟨b, off + i, none⟩ = some (.int .u8 bs[i].toNat) := by
  rcases h.1 with rfl | ⟨b, off, h1, h2⟩
  · simp at hk
  · exact ⟨b, off, h1, h2⟩
def encB (b : UInt8) : Value := .int .u8 (b.toNat : Int)
theorem encB_one (bs : List UInt8) : ∀ u ∈ bs.map encB, u.oneCell' = true := by
  intro u hu
  obtain ⟨x, _, rfl⟩ := List.mem_map.1 hu
  rfl
theorem RB.news {w : World} {a : Addr} {bs : List UInt8} (h : RB w (some a) bs) : ∀ j u, (bs.map encB)[j]? = some u → w.cell? (a.add j) = some u := by
  rcases h with rfl | ⟨b, off, h1, h2⟩
  · simp
  · cases h1
    intro j u hj
    have hjl : j < bs.length := by
      rcases Nat.lt_or_ge j bs.length with h | h
      · exact h
      · simp [h] at hj
    rw [plain_add, h2 j hjl]
    simp [hjl, encB] at hj
    rw [hj]
theorem RB.none_ {w : World} {bs : List UInt8} (h : RB w none bs) : bs = [] := by
  rcases h with h | ⟨b, off, h, _⟩
  · exact h
  · cases h

/-- A row of bytes that a call owns: a slice over a block of its own, from its head on. -/
def OwnB (w : World) (base : Nat) (A : Option Addr) (c : Nat) (bs : List UInt8) : Prop := w.ownsRow base 5 1 (.slice A bs.length c) bs.length (bs.map encB) ∧ bs.length ≤ 140737488351232
theorem OwnB.ok {w : World} {base : Nat} {A : Option Addr} {c : Nat} {bs : List UInt8} (h : OwnB w base A c bs) : OkB w A c bs := by
  rcases h.1.2 with ⟨h1, h0⟩ | ⟨g, cap, cur, h1, hg, hh, h2, h3, h4, h5⟩
  · injection h1 with h1 h6 h7
    subst h1; subst h7
    have : bs = [] := List.eq_nil_of_length_eq_zero h0
    subst this
    exact OkB.nil w
  · injection h1 with h1 h6 h7
    subst h1; subst h7
    refine ⟨.inr ⟨g, 0, rfl, fun i hi => ?_⟩, h2, h.2, fun e => by cases e⟩
    have := h.1.cellAt i (by omega)
    rw [Nat.zero_add, this]
    simp [encB, hi]
theorem OwnB.ext {w w' : World} {base : Nat} {A : Option Addr} {c : Nat} {bs : List UInt8} (h : OwnB w base A c bs) (hb : Below w.heap.size w w') : OwnB w' base A c bs := by
  refine ⟨h.1.kept (row := none) ⟨hb.os, hb.tape, hb.output, hb.size, fun i hi _ => hb.block i hi⟩ ?_, h.2⟩
  cases A with
  | none => exact .inl rfl
  | some a => exact .inr (by simp [Value.ownBlock])
theorem OwnB.base_le {w : World} {base base' : Nat} {A : Option Addr} {c : Nat} {bs : List UInt8} (h : OwnB w base A c bs) (hb : base' ≤ base) : OwnB w base' A c bs := by
  refine ⟨⟨h.1.1, ?_⟩, h.2⟩
  rcases h.1.2 with h0 | ⟨g, cap, cur, h1, hg, h2⟩
  · exact .inl h0
  · exact .inr ⟨g, cap, cur, h1, Nat.le_trans hb hg, h2⟩
theorem OwnB.of {w : World} {base n : Nat} {v : Value} {bs : List UInt8} (h : w.ownsRow base 5 1 v n (bs.map encB)) (hl : bs.length ≤ 140737488351232) : ∃ A c, v = .slice A bs.length c ∧ OwnB w base A c bs := by
  have hn : bs.length = n := by have := h.1; simpa using this
  subst hn
  rcases h.2 with ⟨rfl, h0⟩ | ⟨g, cap, cur, rfl, h2⟩
  · exact ⟨none, 0, by rw [h0], by rw [h0]; rw [h0] at h; exact h, hl⟩
  · exact ⟨_, _, rfl, h, hl⟩
theorem OwnB.own {w : World} {base : Nat} {A : Option Addr} {c : Nat} {bs : List UInt8} (h : OwnB w base A c bs) : w.ownsRow base 5 1 (.slice A bs.length c) bs.length (bs.map encB) := h.1
theorem OwnB.low {w : World} {base : Nat} {A : Option Addr} {c : Nat} {bs : List UInt8} (h : OwnB w base A c bs) {m : Nat} (hm : m ≤ base) : ∀ k, (Value.slice A bs.length c).ownBlock = some k → m ≤ k :=
  fun k hk => Nat.le_trans hm (h.1.lt k hk).1
theorem info5 : (Try.prog.info? 5).map (fun i => (i.zero, i.size, i.bytes)) = some (some (.int .u8 0), 1, 1) := by kernel_rfl

/-- 'append(out, src...)', out the call's own, src nil or not. -/
theorem append_any {P : Program} (w : World) {ops : Array Oper} {rest : List Oper} {o : Oper} {a : Act} {Q : Exit → Act → World → Prop} (hgd : o.guard = none) (s x : Operand) (t : TypeId)
    (ho : o.op = .call { callee := .builtin .append, args := #[s, x], argTypes := #[t, t] })
    (base : Nat) (i : TypeInfo) (ht : P.underlying t = some (.slice 5)) (hi : P.info? 5 = some i) (hz : i.zero = some (.int .u8 0)) (hsize : i.size = 1) (hby : i.bytes = 1)
    (A : Option Addr) (c : Nat) (bs : List UInt8) (hs : a.eval s = .slice A bs.length c) (hown : OwnB w base A c bs)
    (A' : Option Addr) (c' : Nat) (x' : List UInt8) (hx : a.eval x = .slice A' x'.length c') (hok : OkB w A' c' x')
    (h63 : bs.length + x'.length ≤ 140737488351232) (hbase : base ≤ w.heap.size)
    (h : ∀ A2 c2 L w', Hid (L = bs ++ x') → Hid (OwnB w' base A2 c2 L) → w.grownBy w' (Value.slice A bs.length c).ownBlock → wpList P ops Q rest (a.put o.dst (.slice A2 L.length c2)) w') : wpList P ops Q (o :: rest) a w := by
  have key : ∀ v' w', w'.ownsRow base 5 1 v' (bs.length + x'.length) (bs.map encB ++ x'.map encB) → w.grownBy w' (Value.slice A bs.length c).ownBlock → wpList P ops Q rest (a.put o.dst v') w' := by
    intro v' w' h1 h2
    rw [← List.map_append] at h1
    obtain ⟨A2, c2, rfl, h3⟩ := OwnB.of h1 (by rw [List.length_append]; exact h63)
    exact h A2 c2 _ w' rfl h3 h2
  cases A' with
  | some ad => exact wpList_append_own w hgd s x t ho base 5 i _ 1 1 ht hi hz hsize hby rfl (by decide) _ _ _ hs hown.1 ad x'.length c' (x'.map encB) hx (by simp) hok.1.news (encB_one x') (by simp only [maxLen]; omega) (by omega) hbase (fun v' w' h2 h3 _ => key v' w' h2 h3)
  | none =>
    obtain rfl := hok.1.none_
    obtain rfl := hok.2.2.2 rfl
    exact wpList_append_own_none hgd s x t ho base 5 i 1 ht hi _ _ _ hs hown.1 hx (key _ _ (by simpa using hown.1) (World.grownBy.refl w _))
theorem own_empty (W : World) (n : Nat) (hn : n = W.heap.size) : OwnB (W.alloc (.cells #[] 5)) n (some ⟨n, 0, none⟩) 0 [] := by
  subst hn
  exact ⟨World.ownsRow_lit (base := W.heap.size) W #[] 0 (Nat.le_refl _) (by simp [maxLen]) (by simp), Nat.zero_le _⟩
theorem own_nil (W : World) (base : Nat) : OwnB W base none 0 [] := ⟨World.ownsRow_nil W base 5 1, Nat.zero_le _⟩
theorem own_one (W : World) (n : Nat) (hn : n = W.heap.size) (x : UInt8) : OwnB (W.alloc (.cells #[.int .u8 (x.toNat : Int)] 5)) n (some ⟨n, 0, none⟩) 1 [x] := by
  subst hn
  exact ⟨World.ownsRow_lit (base := W.heap.size) W #[.int .u8 (x.toNat : Int)] 1 (Nat.le_refl _) (by simp [maxLen]) (by simp), by simp⟩

theorem ret_bool {a b : Bool} (h : a = b) : Ending.returned (.bool a) = .returned (.bool b) := by rw [h]
theorem ret_str {a b : ByteArray} (h : a = b) : Ending.returned (.string a) = .returned (.string b) := by rw [h]
theorem ret_int {k : IntKind} {a b : Int} (h : a = b) : Ending.returned (.int k a) = .returned (.int k b) := by rw [h]
end Go.Proofs.Ytlcclaicodghcaa
