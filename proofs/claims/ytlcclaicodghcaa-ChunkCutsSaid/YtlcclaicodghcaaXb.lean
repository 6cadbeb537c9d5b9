import Derived.Test.YtlcclaicodghcaaX
namespace Go.Proofs.Ytlcclaicodghcaa
open Go.RowKit Go.ChangeShapes Go.WideShapes Go.ChangeAt Go.Deep Go.Joins

/-- A row of rows that lies in memory. -/
def VB (w : World) (v : Value) (bs : List UInt8) : Prop := ∃ A c, v = .slice A bs.length c ∧ OkB w A c bs
theorem VB.ext {w w' : World} {v : Value} {bs : List UInt8} (h : VB w v bs) (hb : Below w.heap.size w w') : VB w' v bs := by
  obtain ⟨A, c, h1, h2⟩ := h
  exact ⟨A, c, h1, h2.ext hb⟩
def RBB (w : World) (A : Option Addr) (l : List (List UInt8)) : Prop :=
  l = [] ∨ ∃ b off, A = some ⟨b, off, none⟩ ∧ ∀ i (h : i < l.length), ∃ v, w.cell? ⟨b, off + i, none⟩ = some v ∧ VB w v l[i]
theorem RBB.ext {w w' : World} {A : Option Addr} {l : List (List UInt8)} (h : RBB w A l) (hb : Below w.heap.size w w') : RBB w' A l := by
  rcases h with h | ⟨b, off, h1, h2⟩
  · exact .inl h
  · refine .inr ⟨b, off, h1, fun i hi => ?_⟩
    obtain ⟨v, h3, h4⟩ := h2 i hi
    exact ⟨v, cell_ext hb h3, h4.ext hb⟩
theorem RBB.some_ {w : World} {A : Option Addr} {l : List (List UInt8)} (h : RBB w A l) {k : Nat} (hk : k < l.length) :
    ∃ b off, A = some ⟨b, off, none⟩ ∧ ∀ i (h : i < l.length), ∃ A' c', w.cell? ⟨b, off + i, none⟩ = some (.slice A' l[i].length c') ∧ OkB w A' c' l[i] := by
  rcases h with rfl | ⟨b, off, h1, h2⟩
  · simp at hk
  · refine ⟨b, off, h1, fun i hi => ?_⟩
    obtain ⟨v, h3, A', c', rfl, h4⟩ := h2 i hi
    exact ⟨A', c', h3, h4⟩

section
variable {H : Type} {enc : TypeId × Value → H} {w : World}
theorem open_rows {fuel : Nat} {cs : List Value} {x : DataW H × List MemPlace} (h : DataW.trod enc Try.prog w 0 (fun _ => true) true fuel 54 cs = some x) (hL : Light 54 x.1) :
    ∃ A l c, cs = [.slice A (List.length l) c] ∧ l.length ≤ 140737488351232 ∧ RBB w A l := by
  rcases open_slice Try.underlying54 h with ⟨rfl, rfl⟩ | ⟨a, len, cap, m, n, D, Pl, rfl, _, hl, hm, hmm, rfl, hx⟩
  · exact ⟨none, [], 0, rfl, Nat.zero_le _, .inl rfl⟩
  · simp only [if_true] at hmm
    subst hmm
    obtain ⟨h1, h2⟩ := light_slice Try.underlying54 hL
    rw [Try.bytes22] at h1
    simp only [List.length_map, List.length_range, reachBytes] at h1
    have each : ∀ i, i < len → ∃ bs : List UInt8, ∃ v, w.cell? (a.add i) = some v ∧ VB w v bs := by
      intro i hi
      obtain ⟨cs', e1, e2⟩ := hx i (by omega)
      obtain ⟨A, bs, c, rfl, e3⟩ := open_bytes e2 (h2 _ (List.mem_map.2 ⟨i, List.mem_range.2 hi, rfl⟩))
      rw [Try.cells22, Nat.mul_one] at e1
      exact ⟨bs, _, cell_of_cells?_one e1, A, c, rfl, e3⟩
    obtain ⟨f, hf⟩ := choose_lt each
    refine ⟨some a, (List.range len).map f, m, by simp, by simp; omega, ?_⟩
    by_cases h0 : len = 0
    · subst h0; exact .inl rfl
    · obtain ⟨v, e1, -⟩ := hf 0 (by omega)
      obtain ⟨b, off, rfl⟩ := addr_plain e1
      refine .inr ⟨b, off, rfl, fun i hi => ?_⟩
      obtain ⟨v, e2, e3⟩ := hf i (by simpa using hi)
      rw [plain_add] at e2
      exact ⟨v, e2, by simpa using e3⟩

/-! ### A parameter by itself -/
set_option maxRecDepth 100000 in
theorem open1_bytes {v : Value} {d : DataW H} {p : List MemPlace} (hv : Value.okWide Try.prog w .any 0 22 v) (h : DataW.Trod enc Try.prog w 0 (fun _ => true) true 22 v d p) (hL : Light 22 d) :
    ∃ A bs c, v = .slice A (List.length bs) c ∧ OkB w A c bs := by
  obtain ⟨a0, len, cap, rfl⟩ := okWide_slice Try.underlying22 hv
  obtain ⟨fuel, hf⟩ := h
  obtain ⟨A, bs, c, e0, e1⟩ := open_bytes hf hL
  simp only [Value.cells] at e0
  cases e0
  exact ⟨_, bs, _, rfl, e1⟩
set_option maxRecDepth 100000 in
theorem open1_rows {v : Value} {d : DataW H} {p : List MemPlace} (hv : Value.okWide Try.prog w .any 0 54 v) (h : DataW.Trod enc Try.prog w 0 (fun _ => true) true 54 v d p) (hL : Light 54 d) :
    ∃ A l c, v = .slice A (List.length l) c ∧ l.length ≤ 140737488351232 ∧ RBB w A l := by
  obtain ⟨a0, len, cap, rfl⟩ := okWide_slice Try.underlying54 hv
  obtain ⟨fuel, hf⟩ := h
  obtain ⟨A, l, c, e0, e1⟩ := open_rows hf hL
  simp only [Value.cells] at e0
  cases e0
  exact ⟨_, l, _, rfl, e1⟩
set_option maxRecDepth 100000 in
theorem open1_int {v : Value} {d : DataW H} {p : List MemPlace} (hv : Value.okWide Try.prog w .any 0 3 v) (h : DataW.Trod enc Try.prog w 0 (fun _ => true) true 3 v d p) :
    ∃ n, v = .int .i64 n ∧ -9223372036854775808 ≤ n ∧ n ≤ 9223372036854775807 := by
  obtain ⟨n0, rfl⟩ := okWide_int Try.underlying3 hv
  obtain ⟨fuel, hf⟩ := h
  obtain ⟨n, e0, _, r⟩ := DataW.trod_int Try.underlying3 hf
  simp only [Value.cells] at e0
  cases e0
  exact ⟨_, rfl, wf_i64 r⟩
set_option maxRecDepth 100000 in
theorem open1_u32 {v : Value} {d : DataW H} {p : List MemPlace} (hv : Value.okWide Try.prog w .any 0 55 v) (h : DataW.Trod enc Try.prog w 0 (fun _ => true) true 55 v d p) :
    ∃ n, v = .int .u32 n ∧ 0 ≤ n ∧ n ≤ 4294967295 := by
  obtain ⟨n0, rfl⟩ := okWide_int Try.underlying55 hv
  obtain ⟨fuel, hf⟩ := h
  obtain ⟨n, e0, _, r⟩ := DataW.trod_int Try.underlying55 hf
  simp only [Value.cells] at e0
  cases e0
  exact ⟨_, rfl, wf_u32 r⟩
set_option maxRecDepth 100000 in
theorem open1_string {v : Value} {d : DataW H} {p : List MemPlace} (hv : Value.okWide Try.prog w .any 0 9 v) (h : DataW.Trod enc Try.prog w 0 (fun _ => true) true 9 v d p) :
    ∃ s, v = .string s ∧ s.size ≤ maxLen := by
  obtain ⟨n0, rfl⟩ := okWide_string Try.underlying9 hv
  obtain ⟨fuel, hf⟩ := h
  obtain ⟨s, e0, _, r⟩ := DataW.trod_string Try.underlying9 hf
  simp only [Value.cells] at e0
  cases e0
  exact ⟨_, rfl, r⟩
end
end Go.Proofs.Ytlcclaicodghcaa
