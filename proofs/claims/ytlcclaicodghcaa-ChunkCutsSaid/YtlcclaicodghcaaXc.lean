import Derived.Test.YtlcclaicodghcaaXb
import Derived.Test.YtlcclaicodghcaaCg
namespace Go.Proofs.Ytlcclaicodghcaa
open Go.RowKit Go.ChangeShapes Go.WideShapes Go.ChangeAt Go.Deep Go.Joins

theorem Try.cells73 : Try.prog.cellsOf 73 = 1 := by kernel_rfl
theorem Try.cells75 : Try.prog.cellsOf 75 = 5 := by kernel_rfl
theorem Try.cells98 : Try.prog.cellsOf 98 = 3 := by kernel_rfl
theorem Try.bytes98 : Try.prog.bytesOf 98 = 40 := by kernel_rfl
section
variable {H : Type} {enc : TypeId × Value → H} {w : World}
theorem trod_s3 {P : Program} {base : Nat} {spare : Nat → Bool} {held : Bool} {t : TypeId} {f0 f1 f2 : Field} {fuel : Nat} {cs : List Value} {x : DataW H × List MemPlace} (ht : P.underlying t = some (.struct #[f0, f1, f2])) (h : DataW.trod enc P w base spare held fuel t cs = some x) :
    ∃ y0 y1 y2 n, x.1 = .agg [y0.1, y1.1, y2.1] ∧ DataW.trod enc P w base spare held n f0.type ((cs.drop f0.offset).take (P.cellsOf f0.type)) = some y0 ∧ DataW.trod enc P w base spare held n f1.type ((cs.drop f1.offset).take (P.cellsOf f1.type)) = some y1 ∧ DataW.trod enc P w base spare held n f2.type ((cs.drop f2.offset).take (P.cellsOf f2.type)) = some y2 := by
  obtain ⟨xs, n, _, rfl, hl, hlen, hf⟩ := DataW.trod_struct ht h
  match xs, hlen with
  | [y0, y1, y2], _ => exact ⟨y0, y1, y2, n, by simp, by simpa using hf 0 f0 rfl, by simpa using hf 1 f1 rfl, by simpa using hf 2 f2 rfl⟩
theorem trod_s5 {P : Program} {base : Nat} {spare : Nat → Bool} {held : Bool} {t : TypeId} {f0 f1 f2 f3 f4 : Field} {fuel : Nat} {cs : List Value} {x : DataW H × List MemPlace} (ht : P.underlying t = some (.struct #[f0, f1, f2, f3, f4])) (h : DataW.trod enc P w base spare held fuel t cs = some x) :
    ∃ y0 y1 y2 y3 y4 n, x.1 = .agg [y0.1, y1.1, y2.1, y3.1, y4.1] ∧ DataW.trod enc P w base spare held n f0.type ((cs.drop f0.offset).take (P.cellsOf f0.type)) = some y0 ∧ DataW.trod enc P w base spare held n f1.type ((cs.drop f1.offset).take (P.cellsOf f1.type)) = some y1 ∧ DataW.trod enc P w base spare held n f2.type ((cs.drop f2.offset).take (P.cellsOf f2.type)) = some y2 ∧
      DataW.trod enc P w base spare held n f3.type ((cs.drop f3.offset).take (P.cellsOf f3.type)) = some y3 ∧ DataW.trod enc P w base spare held n f4.type ((cs.drop f4.offset).take (P.cellsOf f4.type)) = some y4 := by
  obtain ⟨xs, n, _, rfl, hl, hlen, hf⟩ := DataW.trod_struct ht h
  match xs, hlen with
  | [y0, y1, y2, y3, y4], _ => exact ⟨y0, y1, y2, y3, y4, n, by simp, by simpa using hf 0 f0 rfl, by simpa using hf 1 f1 rfl, by simpa using hf 2 f2 rfl, by simpa using hf 3 f3 rfl, by simpa using hf 4 f4 rfl⟩
theorem array_five {α : Type} {cs : Array α} (h : cs.size = 5) : ∃ c0 c1 c2 c3 c4, cs = #[c0, c1, c2, c3, c4] := by
  obtain ⟨l⟩ := cs
  match l, h with
  | [c0, c1, c2, c3, c4], _ => exact ⟨c0, c1, c2, c3, c4, rfl⟩
set_option maxRecDepth 100000 in
/-- Sections that came in. -/
theorem open_sects {fuel : Nat} {cs : List Value} {x : DataW H × List MemPlace} (h : DataW.trod enc Try.prog w 0 (fun _ => true) true fuel 73 cs = some x) (hL : Light 73 x.1) :
    ∃ A l c, cs = [.slice A (List.length l) c] ∧ l.length ≤ 140737488351232 ∧ RT w A l := by
  rcases open_slice Try.underlying73 h with ⟨rfl, rfl⟩ | ⟨a, len, cap, m, n, D, Pl, rfl, _, hl, hm, hmm, rfl, hx⟩
  · exact ⟨none, [], 0, rfl, Nat.zero_le _, .inl rfl⟩
  · simp only [if_true] at hmm
    subst hmm
    obtain ⟨h1, h2⟩ := light_slice Try.underlying73 hL
    rw [Try.bytes98] at h1
    simp only [List.length_map, List.length_range, reachBytes] at h1
    have each : ∀ i, i < len → ∃ s : SectD, (∃ A' c', w.cell? (a.add (i * 3)) = some (.slice A' s.1.length c') ∧ OkB w A' c' s.1) ∧ w.cell? ((a.add (i * 3)).add 1) = some (.int .i64 s.2.1) ∧ w.cell? ((a.add (i * 3)).add 2) = some (.int .i64 s.2.2) := by
      intro i hi
      obtain ⟨cs', e1, e2⟩ := hx i (by omega)
      obtain ⟨y0, y1, y2, k, e3, e4, e5, e6⟩ := trod_s3 Try.underlying98 e2
      have hLi := h2 _ (List.mem_map.2 ⟨i, List.mem_range.2 hi, rfl⟩)
      simp only at e3
      rw [e3] at hLi
      have hLy : Light 22 y0.1 := by
        unfold Light at hLi
        simp only [DataW.weights, Try.underlying98] at hLi
        exact light_each hLi 0 22 y0.1 rfl rfl
      rw [Try.cells98] at e1
      obtain ⟨_, hlen, hcell⟩ := World.cells?_some e1
      match cs', hlen with
      | [c0, c1, c2], _ =>
        simp only [Try.cells3, Try.cells22, List.drop_zero, List.take_succ_cons, List.take_zero, List.drop_succ_cons] at e4 e5 e6
        obtain ⟨A, bs, c, e8, e9⟩ := open_bytes e4 hLy
        obtain ⟨z, e7, _, _⟩ := DataW.trod_int Try.underlying3 e5
        obtain ⟨z', e7', _, _⟩ := DataW.trod_int Try.underlying3 e6
        cases e7
        cases e7'
        cases e8
        refine ⟨(bs, z, z'), ⟨A, c, ?_, e9⟩, hcell 1 (by omega), hcell 2 (by omega)⟩
        have := hcell 0 (by omega)
        rwa [show (a.add (i * 3)).add 0 = a.add (i * 3) by simp [Addr.add]] at this
    obtain ⟨f, hf⟩ := choose_lt each
    refine ⟨some a, (List.range len).map f, m, by simp, by simp; omega, ?_⟩
    by_cases h0 : len = 0
    · subst h0; exact .inl rfl
    · obtain ⟨⟨A', c', e1, _⟩, -, -⟩ := hf 0 (by omega)
      obtain ⟨b, off, rfl⟩ := addr_plain (show w.cell? (a.add 0) = _ from e1)
      refine .inr ⟨b, off, rfl, fun i hi => ?_⟩
      obtain ⟨⟨A', c', e2, e3⟩, e4, e5⟩ := hf i (by simpa using hi)
      rw [plain_add] at e2 e4 e5
      rw [plain_add] at e4 e5
      exact ⟨⟨A', c', by simpa using e2, by simpa using e3⟩, by simpa using e4, by simpa using e5⟩
set_option maxRecDepth 100000 in
/-- A head that came in. -/
theorem open_head {fuel : Nat} {c0 c1 c2 c3 c4 : Value} {x : DataW H × List MemPlace} (h : DataW.trod enc Try.prog w 0 (fun _ => true) true fuel 75 [c0, c1, c2, c3, c4] = some x) (hL : Light 75 x.1) :
    ∃ v AS S cS r AN N cN AT T cT, [c0, c1, c2, c3, c4] = [.int .i64 v, .slice AS (List.length S) cS, .int .i64 r, .slice AN (List.length N) cN, .slice AT (List.length T) cT] ∧ OkH w AS cS S AN cN N AT T := by
  obtain ⟨y0, y1, y2, y3, y4, n, hx, h0, h1, h2, h3, h4⟩ := trod_s5 Try.underlying75 h
  rw [hx] at hL
  have hE : ∀ (i : Nat) t d, [3, 22, 3, 22, 73][i]? = some t → [y0.1, y1.1, y2.1, y3.1, y4.1][i]? = some d → Light t d := by
    unfold Light at hL
    simp only [DataW.weights, Try.underlying75] at hL
    exact light_each hL
  simp only [Try.cells3, Try.cells22, Try.cells73, List.drop_zero, List.take_succ_cons, List.take_zero, List.drop_succ_cons] at h0 h1 h2 h3 h4
  obtain ⟨v, e0, _, _⟩ := DataW.trod_int Try.underlying3 h0
  obtain ⟨AS, S, cS, e1, k1⟩ := open_bytes h1 (hE 1 22 _ rfl rfl)
  obtain ⟨r, e2, _, _⟩ := DataW.trod_int Try.underlying3 h2
  obtain ⟨AN, N, cN, e3, k3⟩ := open_bytes h3 (hE 3 22 _ rfl rfl)
  obtain ⟨AT, T, cT, e4, k4, k5⟩ := open_sects h4 (hE 4 73 _ rfl rfl)
  cases e0; cases e1; cases e2; cases e3; cases e4
  exact ⟨_, _, _, _, _, _, _, _, _, _, _, rfl, k1, k3, k5, k4⟩
set_option maxRecDepth 100000 in
theorem open1_head {v : Value} {d : DataW H} {p : List MemPlace} (hv : Value.okWide Try.prog w .any 0 75 v) (h : DataW.Trod enc Try.prog w 0 (fun _ => true) true 75 v d p) (hL : Light 75 d) :
    ∃ n AS S cS r AN N cN AT T cT, v = .agg #[.int .i64 n, .slice AS (List.length S) cS, .int .i64 r, .slice AN (List.length N) cN, .slice AT (List.length T) cT] ∧ OkH w AS cS S AN cN N AT T := by
  obtain ⟨cs, rfl, hsz⟩ := okWide_struct Try.underlying75 hv
  obtain ⟨c0, c1, c2, c3, c4, rfl⟩ := array_five (hsz.trans Try.cells75)
  obtain ⟨fuel, hf⟩ := h
  simp only [Value.cells] at hf
  obtain ⟨n, AS, S, cS, r, AN, N, cN, AT, T, cT, e, k⟩ := open_head hf hL
  injection e with e0 e
  injection e with e1 e
  injection e with e2 e
  injection e with e3 e
  injection e with e4 e
  subst e0 e1 e2 e3 e4
  exact ⟨_, _, _, _, _, _, _, _, _, _, _, rfl, k⟩
set_option maxRecDepth 100000 in
theorem open1_u16 {v : Value} {d : DataW H} {p : List MemPlace} (hv : Value.okWide Try.prog w .any 0 48 v) (h : DataW.Trod enc Try.prog w 0 (fun _ => true) true 48 v d p) :
    ∃ n, v = .int .u16 n ∧ 0 ≤ n ∧ n ≤ 65535 := by
  obtain ⟨n0, rfl⟩ := okWide_int Try.underlying48 hv
  obtain ⟨fuel, hf⟩ := h
  obtain ⟨n, e0, _, r⟩ := DataW.trod_int Try.underlying48 hf
  simp only [Value.cells] at e0
  cases e0
  exact ⟨_, rfl, wf_u16 r⟩
end
end Go.Proofs.Ytlcclaicodghcaa
