import Derived.Test.YtlcclaicodghcaaCc
import Derived.Test.YtlcclaicodghcaaPb
namespace Go.Proofs.Ytlcclaicodghcaa
open Go.RowKit

/-- A call's own row of values. -/
def OwnV (w : World) (base : Nat) (e : TypeId) (size : Nat) (A : Option Addr) (n c : Nat) (xs : List Value) : Prop := w.ownsRow base e size (.slice A n c) n xs
theorem OwnV.ext {w w' : World} {base : Nat} {e : TypeId} {size : Nat} {A : Option Addr} {n c : Nat} {xs : List Value} (h : OwnV w base e size A n c xs) (hb : Below w.heap.size w w') : OwnV w' base e size A n c xs := by
  refine World.ownsRow.kept (row := none) h ⟨hb.os, hb.tape, hb.output, hb.size, fun i hi _ => hb.block i hi⟩ ?_
  cases A with
  | none => exact .inl rfl
  | some a => exact .inr (by simp [Value.ownBlock])
theorem OwnV.low {w : World} {base : Nat} {e : TypeId} {size : Nat} {A : Option Addr} {n c : Nat} {xs : List Value} (h : OwnV w base e size A n c xs) {m : Nat} (hm : m ≤ base) : ∀ k, (Value.slice A n c).ownBlock = some k → m ≤ k :=
  fun k hk => Nat.le_trans hm (World.ownsRow.lt h k hk).1
theorem OwnV.nil (w : World) (base : Nat) (e : TypeId) (size : Nat) : OwnV w base e size none 0 0 [] := World.ownsRow_nil w base e size
theorem OwnV.of {w : World} {base : Nat} {e : TypeId} {size n : Nat} {v : Value} {xs : List Value} (h : w.ownsRow base e size v n xs) : ∃ A c, v = .slice A n c ∧ OwnV w base e size A n c xs := by
  rcases h.2 with ⟨rfl, h0⟩ | ⟨g, cap, cur, rfl, h2⟩
  · exact ⟨none, 0, by rw [h0], by unfold OwnV; rw [h0]; rw [h0] at h; exact h⟩
  · exact ⟨_, _, rfl, h⟩
/-- 'append(out, v)': the literal's row is new. -/
theorem append_new {P : Program} (w0 : World) (cs : Array Value) {ops : Array Oper} {rest : List Oper} {o : Oper} {a : Act} {Q : Exit → Act → World → Prop} (hgd : o.guard = none) (s x : Operand) (t : TypeId)
    (ho : o.op = .call { callee := .builtin .append, args := #[s, x], argTypes := #[t, t] })
    (base : Nat) (e : TypeId) (i : TypeInfo) (z : Value) (size bytes : Nat) (ht : P.underlying t = some (.slice e)) (hi : P.info? e = some i) (hz : i.zero = some z)
    (hsize : i.size = size) (hby : i.bytes = bytes) (hzs : z.cells.size = size) (hsz : 0 < size)
    (A : Option Addr) (n c : Nat) (xs : List Value) (hs : a.eval s = .slice A n c) (hown : OwnV w0 base e size A n c xs)
    (c' : Nat) (hx : a.eval x = .slice (some ⟨w0.heap.size, 0, none⟩) 1 c') (hcs : cs.size = size) (h1 : ∀ u ∈ cs.toList, u.oneCell' = true)
    (h63 : n + 1 ≤ maxLen) (hbytes : (n + 1) * bytes ≤ 140737488355328) (hbase : base ≤ w0.heap.size)
    (h : ∀ A2 c2 w', Hid (OwnV w' base e size A2 (n + 1) c2 (xs ++ cs.toList)) → Hid (Below base w0 w') → wpList P ops Q rest (a.put o.dst (.slice A2 (n + 1) c2)) w') : wpList P ops Q (o :: rest) a (w0.alloc (.cells cs e)) := by
  have hb := bl_alloc (Below.refl w0.heap.size w0) (.cells cs e)
  refine wpList_append_own _ hgd s x t ho base e i z size bytes ht hi hz hsize hby hzs hsz _ n xs hs (hown.ext hb) ⟨w0.heap.size, 0, none⟩ 1 c' cs.toList hx (by simp [hcs]) (fun j u hj => ?_) h1 h63 hbytes (Nat.le_trans hbase hb.size) (fun v' w' h2 h3 _ => ?_)
  · rw [plain_add, World.cell?_alloc_at _ _ _ _ rfl]
    simpa using hj
  · obtain ⟨A2, c2, rfl, h4⟩ := OwnV.of h2
    have hb' : Below base w0 (w0.alloc (.cells cs e)) := ⟨hb.os, hb.tape, hb.output, hb.size, fun i hi => hb.block i (Nat.lt_of_lt_of_le hi hbase)⟩
    exact h A2 c2 w' h4 (Below.grown hb' h3 (Nat.le_trans hbase hb.size) (OwnV.low hown (Nat.le_refl _)))
theorem info22 : (Try.prog.info? 22).map (fun i => (i.zero, i.size, i.bytes)) = some (some (.slice none 0 0), 1, 24) := by kernel_rfl
/-- A row of rows, in a call's own memory. -/
theorem rbb_own {w : World} {base : Nat} {A : Option Addr} {n c : Nat} {vs : List Value} {l : List (List UInt8)} (h : OwnV w base 22 1 A n c vs) (hn : l.length = n) (hv : ∀ i (h : i < l.length), ∃ v, vs[i]? = some v ∧ VB w v l[i]) : RBB w A l := by
  rcases h.2 with ⟨h1, h0⟩ | ⟨g, cap, cur, h1, _⟩
  · exact .inl (List.eq_nil_of_length_eq_zero (by omega))
  · injection h1 with h1 h6 h7
    subst h1
    refine .inr ⟨g, 0, rfl, fun i hi => ?_⟩
    obtain ⟨v, h2, h3⟩ := hv i hi
    refine ⟨v, ?_, h3⟩
    have := World.ownsRow.cellAt h i (by omega)
    rw [Nat.zero_add, this]
    exact h2
end Go.Proofs.Ytlcclaicodghcaa
