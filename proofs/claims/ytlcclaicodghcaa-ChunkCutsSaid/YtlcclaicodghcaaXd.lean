import Derived.Test.YtlcclaicodghcaaXc
namespace Go.Proofs.Ytlcclaicodghcaa
open Go.RowKit Go.ChangeShapes Go.WideShapes Go.ChangeAt Go.Deep Go.Joins

theorem cells100' : Try.prog.cellsOf 100 = 3 := by kernel_rfl
theorem cells102' : Try.prog.cellsOf 102 = 10 := by kernel_rfl
theorem cells48' : Try.prog.cellsOf 48 = 1 := by kernel_rfl
theorem cells5' : Try.prog.cellsOf 5 = 1 := by kernel_rfl
theorem array_ten {α : Type} {cs : Array α} (h : cs.size = 10) : ∃ c0 c1 c2 c3 c4 c5 c6 c7 c8 c9, cs = #[c0, c1, c2, c3, c4, c5, c6, c7, c8, c9] := by
  obtain ⟨l⟩ := cs
  match l, h with
  | [c0, c1, c2, c3, c4, c5, c6, c7, c8, c9], _ => exact ⟨c0, c1, c2, c3, c4, c5, c6, c7, c8, c9, rfl⟩
theorem u8_of {n : Int} (h : 0 ≤ n ∧ n ≤ 255) : ∃ x : UInt8, n = (x.toNat : Int) := ⟨UInt8.ofNat n.toNat, by simp; omega⟩
theorem trod_s4 {H : Type} {enc : TypeId × Value → H} {P : Program} {w : World} {base : Nat} {spare : Nat → Bool} {held : Bool} {t : TypeId} {f0 f1 f2 f3 : Field} {fuel : Nat} {cs : List Value} {x : DataW H × List MemPlace} (ht : P.underlying t = some (.struct #[f0, f1, f2, f3])) (h : DataW.trod enc P w base spare held fuel t cs = some x) :
    ∃ y0 y1 y2 y3 n, x.1 = .agg [y0.1, y1.1, y2.1, y3.1] ∧ DataW.trod enc P w base spare held n f0.type ((cs.drop f0.offset).take (P.cellsOf f0.type)) = some y0 ∧ DataW.trod enc P w base spare held n f1.type ((cs.drop f1.offset).take (P.cellsOf f1.type)) = some y1 ∧ DataW.trod enc P w base spare held n f2.type ((cs.drop f2.offset).take (P.cellsOf f2.type)) = some y2 ∧
      DataW.trod enc P w base spare held n f3.type ((cs.drop f3.offset).take (P.cellsOf f3.type)) = some y3 := by
  obtain ⟨xs, n, _, rfl, hl, hlen, hf⟩ := DataW.trod_struct ht h
  match xs, hlen with
  | [y0, y1, y2, y3], _ => exact ⟨y0, y1, y2, y3, n, by simp, by simpa using hf 0 f0 rfl, by simpa using hf 1 f1 rfl, by simpa using hf 2 f2 rfl, by simpa using hf 3 f3 rfl⟩
set_option maxRecDepth 100000 in
/-- Three bytes that came in. -/
theorem open_three {H : Type} {enc : TypeId × Value → H} {w : World} {fuel : Nat} {c0 c1 c2 : Value} {x : DataW H × List MemPlace} (h : DataW.trod enc Try.prog w 0 (fun _ => true) true fuel 100 [c0, c1, c2] = some x) :
    ∃ x0 x1 x2 : UInt8, c0 = .int .u8 (x0.toNat : Int) ∧ c1 = .int .u8 (x1.toNat : Int) ∧ c2 = .int .u8 (x2.toNat : Int) := by
  obtain ⟨xs, m, _, _, _, hlen, hel⟩ := DataW.trod_array Try.underlying100 h
  have e : ∀ i, i < 3 → ∃ q, xs[i]? = some q := fun i hi => ⟨_, List.getElem?_eq_getElem (by omega)⟩
  obtain ⟨q0, g0⟩ := e 0 (by omega)
  obtain ⟨q1, g1⟩ := e 1 (by omega)
  obtain ⟨q2, g2⟩ := e 2 (by omega)
  have h0 := (hel 0 (by omega)).trans g0
  have h1 := (hel 1 (by omega)).trans g1
  have h2 := (hel 2 (by omega)).trans g2
  simp only [cells5', Nat.mul_one, List.drop_zero, List.take_succ_cons, List.take_zero, List.drop_succ_cons] at h0 h1 h2
  obtain ⟨n0, e0, _, r0⟩ := DataW.trod_int Try.underlying5 h0
  obtain ⟨n1, e1, _, r1⟩ := DataW.trod_int Try.underlying5 h1
  obtain ⟨n2, e2, _, r2⟩ := DataW.trod_int Try.underlying5 h2
  cases e0; cases e1; cases e2
  obtain ⟨x0, rfl⟩ := u8_of (wf_u8 r0)
  obtain ⟨x1, rfl⟩ := u8_of (wf_u8 r1)
  obtain ⟨x2, rfl⟩ := u8_of (wf_u8 r2)
  exact ⟨_, _, _, rfl, rfl, rfl⟩
set_option maxRecDepth 100000 in
theorem open1_cuts {H : Type} {enc : TypeId × Value → H} {w : World} {v : Value} {d : DataW H} {p : List MemPlace} (hv : Value.okWide Try.prog w .any 0 102 v) (h : DataW.Trod enc Try.prog w 0 (fun _ => true) true 102 v d p) (hL : Light 102 d) :
    ∃ n AS S cS r AN N cN AT T cT cut, ∃ x0 x1 x2 z : UInt8, v = .agg #[.int .i64 n, .slice AS (List.length S) cS, .int .i64 r, .slice AN (List.length N) cN, .slice AT (List.length T) cT, .int .u16 cut, .int .u8 (x0.toNat : Int), .int .u8 (x1.toNat : Int), .int .u8 (x2.toNat : Int), .int .u8 (z.toNat : Int)] ∧ OkH w AS cS S AN cN N AT T ∧ 0 ≤ cut ∧ cut ≤ 65535 := by
  obtain ⟨cs, rfl, hsz⟩ := okWide_struct Try.underlying102 hv
  obtain ⟨c0, c1, c2, c3, c4, c5, c6, c7, c8, c9, rfl⟩ := array_ten (hsz.trans cells102')
  obtain ⟨fuel, hf⟩ := h
  obtain ⟨y0, y1, y2, y3, n, hx, h0, h1, h2, h3⟩ := trod_s4 Try.underlying102 hf
  rw [show d = _ from hx] at hL
  have hE : ∀ (i : Nat) t d, [75, 48, 100, 5][i]? = some t → [y0.1, y1.1, y2.1, y3.1][i]? = some d → Light t d := by
    unfold Light at hL
    simp only [DataW.weights, Try.underlying102] at hL
    exact light_each hL
  simp only [Value.cells, Try.cells75, cells48', cells100', cells5', List.drop_zero, List.take_succ_cons, List.take_zero, List.drop_succ_cons] at h0 h1 h2 h3
  obtain ⟨v, AS, S, cS, r, AN, N, cN, AT, T, cT, e, k⟩ := open_head h0 (hE 0 75 _ rfl rfl)
  obtain ⟨cut, e1, _, r1⟩ := DataW.trod_int Try.underlying48 h1
  obtain ⟨x0, x1, x2, rfl, rfl, rfl⟩ := open_three h2
  obtain ⟨z, e3, _, r3⟩ := DataW.trod_int Try.underlying5 h3
  cases e1; cases e3
  obtain ⟨z, rfl⟩ := u8_of (wf_u8 r3)
  injection e with e0 e
  injection e with e1 e
  injection e with e2 e
  injection e with e3 e
  injection e with e4 e
  subst e0 e1 e2 e3 e4
  exact ⟨_, _, _, _, _, _, _, _, _, _, _, _, _, _, _, _, rfl, k, wf_u16 r1⟩
end Go.Proofs.Ytlcclaicodghcaa
