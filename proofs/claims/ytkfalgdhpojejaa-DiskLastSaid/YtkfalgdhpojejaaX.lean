import Derived.Test.YtkfalgdhpojejaaU
import Derived.ProofKit
import Derived.SizedLaws
import Derived.Lib.SmallJoins
import Derived.Deep.Grids
namespace Go.Proofs.Ytkfalgdhpojejaa
open Go.RowKit Go.ChangeShapes Go.WideShapes Go.ChangeAt Go.Deep Go.Joins

theorem Try.own : ownKnob Try.prog.godebug = none := by kernel_rfl
theorem Try.laidOut : laidOutB Try.prog = true := by kernel_rfl
theorem Try.cells5 : Try.prog.cellsOf 5 = 1 := by kernel_rfl
theorem Try.cells4 : Try.prog.cellsOf 4 = 1 := by kernel_rfl
theorem Try.cells37 : Try.prog.cellsOf 37 = 1 := by kernel_rfl
theorem Try.cells22 : Try.prog.cellsOf 22 = 1 := by kernel_rfl
theorem Try.cells23 : Try.prog.cellsOf 23 = 1 := by kernel_rfl
theorem Try.cells3 : Try.prog.cellsOf 3 = 1 := by kernel_rfl
theorem Try.cells44 : Try.prog.cellsOf 44 = 1 := by kernel_rfl
theorem Try.cells55 : Try.prog.cellsOf 55 = 2 := by kernel_rfl
theorem Try.cells25 : Try.prog.cellsOf 25 = 3 := by kernel_rfl
theorem Try.bytes5 : Try.prog.bytesOf 5 = 1 := by kernel_rfl
theorem Try.bytes4 : Try.prog.bytesOf 4 = 1 := by kernel_rfl
theorem Try.bytes37 : Try.prog.bytesOf 37 = 24 := by kernel_rfl
theorem Try.bytes55 : Try.prog.bytesOf 55 = 32 := by kernel_rfl

/-- Nothing in it weighs more than the reach. -/
def Light {H : Type} (t : TypeId) (d : DataW H) : Prop := ∀ n ∈ d.weights Try.prog t, n ≤ reachBytes
theorem light_all {H : Type} {e : TypeId} : ∀ {l : List (DataW H)}, (∀ n ∈ DataW.weightsAll Try.prog e l, n ≤ reachBytes) → ∀ d ∈ l, Light e d
  | [], _, _, hd => by cases hd
  | x :: l, h, d, hd => by
    rw [DataW.weightsAll] at h
    rcases List.mem_cons.1 hd with rfl | hd
    · exact fun n hn => h n (List.mem_append_left _ hn)
    · exact light_all (fun n hn => h n (List.mem_append_right _ hn)) d hd
theorem light_each {H : Type} : ∀ {ts : List TypeId} {l : List (DataW H)}, (∀ n ∈ DataW.weightsEach Try.prog ts l, n ≤ reachBytes) → ∀ (i : Nat) t d, ts[i]? = some t → l[i]? = some d → Light t d
  | [], _, _, i, _, _, ht, _ => by simp at ht
  | _ :: _, [], _, i, _, _, _, hd => by simp at hd
  | t0 :: ts, d0 :: l, h, i, t, d, ht, hd => by
    rw [DataW.weightsEach] at h
    cases i with
    | zero =>
      simp at ht hd
      subst ht; subst hd
      exact fun n hn => h n (List.mem_append_left _ hn)
    | succ i => exact light_each (fun n hn => h n (List.mem_append_right _ hn)) i t d (by simpa using ht) (by simpa using hd)
theorem light_slice {H : Type} {t e : TypeId} {l s : List (DataW H)} (ht : Try.prog.underlying t = some (.slice e)) (h : Light t (.slice l s)) : (l.length + s.length) * Try.prog.bytesOf e ≤ reachBytes ∧ ∀ d ∈ l, Light e d := by
  unfold Light at h
  simp only [DataW.weights, ht] at h
  exact ⟨h _ (List.mem_cons_self ..), light_all fun n hn => h n (List.mem_cons_of_mem _ (List.mem_append_left _ hn))⟩

section
variable {H : Type} {enc : TypeId × Value → H} {w : World}

theorem addr_plain {w : World} {a : Addr} {v : Value} (h : w.cell? (a.add 0) = some v) : ∃ b off, a = ⟨b, off, none⟩ := by
  obtain ⟨b, off, spot⟩ := a
  have hs : spot = none := by simpa [Addr.add] using World.cell?_spot h
  exact ⟨b, off, by rw [hs]⟩

theorem wf_u8 {n : Int} (h : (Lit.int .u8 n).wf = true) : 0 ≤ n ∧ n ≤ 255 := by
  have h1 : IntKind.u8.min = 0 := rfl
  have h2 : IntKind.u8.max = 255 := rfl
  simp only [Lit.wf, Bool.and_eq_true, decide_eq_true_eq] at h
  omega
theorem wf_i64 {n : Int} (h : (Lit.int .i64 n).wf = true) : -9223372036854775808 ≤ n ∧ n ≤ 9223372036854775807 := by
  have h1 : IntKind.i64.min = -9223372036854775808 := rfl
  have h2 : IntKind.i64.max = 9223372036854775807 := rfl
  simp only [Lit.wf, Bool.and_eq_true, decide_eq_true_eq] at h
  omega

/-- A slice of bytes that came in. -/
theorem open_bytes {fuel : Nat} {cs : List Value} {x : DataW H × List MemPlace} (h : DataW.trod enc Try.prog w 0 (fun _ => true) true fuel 37 cs = some x) (hL : Light 37 x.1) :
    ∃ A bs c, cs = [.slice A bs.length c] ∧ bs.length ≤ c ∧ bs.length ≤ 140737488351232 ∧ RB w A bs := by
  rcases open_ints Try.underlying37 Try.underlying5 Try.cells5 h with ⟨rfl, rfl⟩ | ⟨a, len, cap, zs, rfl, _, hl, hm, hz, rfl, hc, hw⟩
  · exact ⟨none, [], 0, rfl, Nat.le_refl _, Nat.zero_le _, .inl rfl⟩
  · simp only [if_true] at hz
    have h1 := (light_slice Try.underlying37 hL).1
    rw [Try.bytes5] at h1
    simp only [lits, List.length_map, List.length_take, List.length_drop, reachBytes] at h1
    have hlen : ((zs.take len).map fun n => UInt8.ofNat n.toNat).length = len := by simp; omega
    refine ⟨some a, (zs.take len).map fun n => UInt8.ofNat n.toNat, cap, by rw [hlen], by omega, by omega, ?_⟩
    by_cases h0 : len = 0
    · exact .inl (List.length_eq_zero_iff.1 (by omega))
    · obtain ⟨b, off, rfl⟩ := addr_plain (hc 0 (by omega))
      refine .inr ⟨b, off, rfl, fun i hi => ?_⟩
      have hi' : i < len := by omega
      have := hc i (by omega)
      rw [plain_add] at this
      rw [this]
      have hzi : i < zs.length := by omega
      have hb := wf_u8 (hw _ (List.getElem_mem hzi))
      simp only [List.getElem_map, List.getElem_take, List.getD_eq_getElem?_getD, List.getElem?_eq_getElem hzi, Option.getD_some, Option.some.injEq]
      congr 1
      simp only [UInt8.toNat_ofNat']
      omega

/-- A row of such slices. -/
theorem open_rows {fuel : Nat} {cs : List Value} {x : DataW H × List MemPlace} (h : DataW.trod enc Try.prog w 0 (fun _ => true) true fuel 22 cs = some x) (hL : Light 22 x.1) :
    ∃ A l c, cs = [.slice A (List.length l) c] ∧ l.length ≤ 140737488351232 ∧ RBB w A l := by
  rcases open_slice Try.underlying22 h with ⟨rfl, rfl⟩ | ⟨a, len, cap, m, n, D, Pl, rfl, _, hl, hm, hmm, rfl, hx⟩
  · exact ⟨none, [], 0, rfl, Nat.zero_le _, .inl rfl⟩
  · simp only [if_true] at hmm
    subst hmm
    obtain ⟨h1, h2⟩ := light_slice Try.underlying22 hL
    rw [Try.bytes37] at h1
    simp only [List.length_map, List.length_range, reachBytes] at h1
    have each : ∀ i, i < len → ∃ bs : List UInt8, ∃ v, w.cell? (a.add i) = some v ∧ VB w v bs := by
      intro i hi
      obtain ⟨cs', e1, e2⟩ := hx i (by omega)
      obtain ⟨A, bs, c, rfl, e3, e4, e5⟩ := open_bytes e2 (h2 _ (List.mem_map.2 ⟨i, List.mem_range.2 hi, rfl⟩))
      rw [Try.cells37, Nat.mul_one] at e1
      exact ⟨bs, _, cell_of_cells?_one e1, A, c, rfl, e3, e4, e5⟩
    obtain ⟨f, hf⟩ := choose_lt each
    refine ⟨some a, (List.range len).map f, m, by simp, by simp; omega, ?_⟩
    by_cases h0 : len = 0
    · subst h0; exact .inl rfl
    · obtain ⟨v, e1, -⟩ := hf 0 (by omega)
      obtain ⟨b, off, rfl⟩ := addr_plain e1
      refine .inr ⟨b, off, rfl, fun i hi => ?_⟩
      obtain ⟨v, e2, e3⟩ := hf i (by simpa using hi)
      rw [plain_add] at e2
      exact ⟨v, e2, by simpa using e3⟩

/-- Writes that came in. -/
theorem open_puts {fuel : Nat} {cs : List Value} {x : DataW H × List MemPlace} (h : DataW.trod enc Try.prog w 0 (fun _ => true) true fuel 23 cs = some x) (hL : Light 23 x.1) :
    ∃ A l c, cs = [.slice A (List.length l) c] ∧ l.length ≤ c ∧ (A = none → c = 0) ∧ l.length ≤ 140737488351232 ∧ RP w A l := by
  rcases open_slice Try.underlying23 h with ⟨rfl, rfl⟩ | ⟨a, len, cap, m, n, D, Pl, rfl, _, hl, hm, hmm, rfl, hx⟩
  · exact ⟨none, [], 0, rfl, Nat.le_refl _, fun _ => rfl, Nat.zero_le _, .inl rfl⟩
  · simp only [if_true] at hmm
    subst hmm
    obtain ⟨h1, h2⟩ := light_slice Try.underlying23 hL
    rw [Try.bytes55] at h1
    simp only [List.length_map, List.length_range, reachBytes] at h1
    have each : ∀ i, i < len → ∃ p : PutD, w.cell? (a.add (i * 2)) = some (.int .i64 p.1) ∧ ∃ v, w.cell? ((a.add (i * 2)).add 1) = some v ∧ VB w v p.2 := by
      intro i hi
      obtain ⟨cs', e1, e2⟩ := hx i (by omega)
      obtain ⟨y0, y1, k, e3, e4, e5, e6⟩ := trod_struct2 Try.underlying55 e2
      have hLi := h2 _ (List.mem_map.2 ⟨i, List.mem_range.2 hi, rfl⟩)
      simp only [Prod.mk.injEq] at e3
      rw [e3.1] at hLi
      have hLy : Light 37 y1.1 := by
        unfold Light at hLi
        simp only [DataW.weights, Try.underlying55] at hLi
        exact light_each hLi 1 37 y1.1 rfl rfl
      rw [Try.cells55] at e1
      obtain ⟨_, hlen, hcell⟩ := World.cells?_some e1
      match cs', hlen with
      | [c0, c1], _ =>
        simp only [Try.cells3, Try.cells37, List.drop_zero, List.take_succ_cons, List.take_zero, List.drop_succ_cons] at e5 e6
        obtain ⟨z, e7, _, _⟩ := DataW.trod_int Try.underlying3 e5
        obtain ⟨A, bs, c, e8, e9, e10, e11⟩ := open_bytes e6 hLy
        cases e7
        cases e8
        refine ⟨(z, bs), ?_, _, hcell 1 (by omega), A, c, rfl, e9, e10, e11⟩
        have := hcell 0 (by omega)
        rwa [show (a.add (i * 2)).add 0 = a.add (i * 2) by simp [Addr.add]] at this
    obtain ⟨f, hf⟩ := choose_lt each
    refine ⟨some a, (List.range len).map f, m, by simp, by simp; omega, (fun h => by cases h), by simp; omega, ?_⟩
    by_cases h0 : len = 0
    · subst h0; exact .inl rfl
    · obtain ⟨e1, -⟩ := hf 0 (by omega)
      obtain ⟨b, off, rfl⟩ := addr_plain (show w.cell? (a.add 0) = _ from e1)
      refine .inr ⟨b, off, rfl, fun i hi => ?_⟩
      obtain ⟨e2, v, e3, e4⟩ := hf i (by simpa using hi)
      rw [plain_add] at e2 e3
      rw [plain_add] at e3
      exact ⟨by simpa using e2, v, e3, by simpa using e4⟩

/-- A disk that came in. -/
theorem open_disk {fuel : Nat} {cs : List Value} {x : DataW H × List MemPlace} (h : DataW.trod enc Try.prog w 0 (fun _ => true) true fuel 25 cs = some x) (hL : Light 25 x.1) :
    ∃ AB B cb AP P cp f, cs = [.slice AB (List.length B) cb, .slice AP (List.length P) cp, .int .i64 f] ∧ B.length ≤ 140737488351232 ∧ P.length ≤ 140737488351232 ∧ (-9223372036854775808 ≤ f ∧ f ≤ 9223372036854775807) ∧ OkD w AB AP cp B P := by
  obtain ⟨y0, y1, y2, n, hx, hl, h0, h1, h2⟩ := trod_struct3 Try.underlying25 h
  subst hx
  rw [Try.cells25] at hl
  have hE : ∀ (i : Nat) t d, [22, 23, 3][i]? = some t → [y0.1, y1.1, y2.1][i]? = some d → Light t d := by
    unfold Light at hL
    simp only [DataW.weights, Try.underlying25] at hL
    exact light_each hL
  match cs, hl with
  | [c0, c1, c2], _ =>
    simp only [Try.cells22, Try.cells23, Try.cells3, List.drop_zero, List.take_succ_cons, List.take_zero, List.drop_succ_cons] at h0 h1 h2
    obtain ⟨A, l, c, e0, e1, e2⟩ := open_rows h0 (hE 0 22 _ rfl rfl)
    obtain ⟨A', l', c', e3, e4, e5, e6, e7⟩ := open_puts h1 (hE 1 23 _ rfl rfl)
    obtain ⟨z, e8, _, e9⟩ := DataW.trod_int Try.underlying3 h2
    cases e0; cases e3; cases e8
    exact ⟨A, l, c, A', l', c', z, rfl, e1, e6, wf_i64 e9, e2.foot.mono fun _ _ => trivial, e7.foot.mono fun _ _ => trivial, e4, e5⟩

/-- A slice of bools that came in. -/
theorem open_keep {fuel : Nat} {cs : List Value} {x : DataW H × List MemPlace} (h : DataW.trod enc Try.prog w 0 (fun _ => true) true fuel 44 cs = some x) (hL : Light 44 x.1) :
    ∃ A K c, cs = [.slice A (List.length K) c] ∧ K.length ≤ 140737488351232 ∧ RL w A K := by
  rcases open_bools Try.underlying44 Try.underlying4 Try.cells4 h with ⟨rfl, rfl⟩ | ⟨a, len, cap, B, rfl, _, hl, hm, rfl, hx⟩
  · exact ⟨none, [], 0, rfl, Nat.zero_le _, .inl rfl⟩
  · obtain ⟨h1, _⟩ := light_slice Try.underlying44 (show Light 44 (.slice ((List.range len).map fun r => DataW.lit (.bool (B r))) ((List.range (cap - len)).map fun r => DataW.lit (.bool (B (len + r))))) from hL)
    rw [Try.bytes4] at h1
    simp only [List.length_map, List.length_range, reachBytes] at h1
    refine ⟨some a, (List.range len).map B, cap, by simp, by simp; omega, ?_⟩
    by_cases h0 : len = 0
    · subst h0; exact .inl rfl
    · obtain ⟨b, off, rfl⟩ := addr_plain (hx 0 (by omega))
      refine .inr ⟨b, off, rfl, fun i hi => ?_⟩
      have := hx i (by simp at hi; omega)
      rw [plain_add] at this
      rw [this]; simp
end
end Go.Proofs.Ytkfalgdhpojejaa
