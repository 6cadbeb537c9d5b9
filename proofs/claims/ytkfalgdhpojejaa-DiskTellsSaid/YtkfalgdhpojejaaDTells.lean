/- The law DiskTells returns true for every input, and what it was handed reads as it did. No condition. -/
import Derived.Test.YtkfalgdhpojejaaW
import Derived.Test.YtkfalgdhpojejaaX
namespace Go.Proofs.Ytkfalgdhpojejaa
open Go.RowKit Go.ChangeShapes Go.WideShapes Go.ChangeAt Go.Deep Go.Joins

theorem Try.cells27 : Try.prog.cellsOf 27 = 8 := by kernel_rfl

theorem array8 {α : Type} {cs : Array α} (h : cs.size = 8) : ∃ c0 c1 c2 c3 c4 c5 c6 c7, cs = #[c0, c1, c2, c3, c4, c5, c6, c7] := by
  obtain ⟨l⟩ := cs
  match l, h with
  | [c0, c1, c2, c3, c4, c5, c6, c7], _ => exact ⟨c0, c1, c2, c3, c4, c5, c6, c7, rfl⟩

theorem open_tells {H : Type} {enc : TypeId × Value → H} {w : World} {v : Value} {d : DataW H} {p : List MemPlace} (hv : Value.okWide Try.prog w .any 0 27 v) (h : DataW.Trod enc Try.prog w 0 (fun _ => true) true 27 v d p) (hL : Light 27 d) :
    ∃ AB B cb AP P cp f AB' B' cb' AP' P' cp' f' n at_, v = .agg #[.slice AB (List.length B) cb, .slice AP (List.length P) cp, .int .i64 f, .slice AB' (List.length B') cb', .slice AP' (List.length P') cp', .int .i64 f', .int .i64 n, .int .i64 at_] ∧
      (B.length ≤ 140737488351232 ∧ P.length ≤ 140737488351232) ∧ (B'.length ≤ 140737488351232 ∧ P'.length ≤ 140737488351232) ∧ (-9223372036854775808 ≤ n ∧ n ≤ 9223372036854775807) ∧ OkD w AB AP cp B P ∧ OkD w AB' AP' cp' B' P' := by
  obtain ⟨cs, rfl, hsz⟩ := okWide_struct Try.underlying27 hv
  obtain ⟨c0, c1, c2, c3, c4, c5, c6, c7, rfl⟩ := array8 (hsz.trans Try.cells27)
  obtain ⟨fuel, hf⟩ := h
  obtain ⟨y0, y1, y2, y3, n, hx, _, h0, h1, h2, h3⟩ := trod_struct4 Try.underlying27 hf
  simp only [Prod.mk.injEq] at hx
  rw [hx.1] at hL
  have hE : ∀ (i : Nat) t d, [25, 25, 3, 3][i]? = some t → [y0.1, y1.1, y2.1, y3.1][i]? = some d → Light t d := by
    unfold Light at hL
    simp only [DataW.weights, Try.underlying27] at hL
    exact light_each hL
  simp only [Value.cells, Try.cells25, Try.cells3, List.drop_zero, List.take_succ_cons, List.take_zero, List.drop_succ_cons] at h0 h1 h2 h3
  obtain ⟨AB, B, cb, AP, P, cp, f, e0, e1, e2, _, e4⟩ := open_disk h0 (hE 0 25 _ rfl rfl)
  obtain ⟨AB', B', cb', AP', P', cp', f', k0, k1, k2, _, k4⟩ := open_disk h1 (hE 1 25 _ rfl rfl)
  obtain ⟨z, e8, _, e9⟩ := DataW.trod_int Try.underlying3 h2
  obtain ⟨z', e10, _, _⟩ := DataW.trod_int Try.underlying3 h3
  cases e0; cases k0; cases e8; cases e10
  exact ⟨_, _, _, _, _, _, _, _, _, _, _, _, _, _, _, _, rfl, ⟨e1, e2⟩, ⟨k1, k2⟩, wf_i64 e9, e4, k4⟩

set_option maxRecDepth 100000 in
theorem tells_lifted (os : Os) (started : os.Started) (H : Type) (enc : TypeId × Value → H) :
    ReturnsInHanded {} Try.checked os 3 .any (Rows.diskTellsSpec.pre6 enc Try.prog Try.f3 Rows.diskTellsRow.domain false) (Rows.diskTellsSpec.post enc Try.prog Try.f3 false true false false) := by
  refine returnsInHanded_of_change_sized (C := Try.checked) Try.own started (by kernel_rfl) Try.func3
    (ChangeSpec.witness6 (enc := enc) (C := Try.checked) false ⟨#[], #[.agg #[.slice none 0 0, .slice none 0 0, .int .i64 0, .slice none 0 0, .slice none 0 0, .int .i64 0, .int .i64 0, .int .i64 0]], []⟩ 8 (by kernel_rfl) (by kernel_rfl) (by kernel_rfl) (by kernel_rfl)) ?_
  intro W base args ds gs before hval0 hW _ hsz0 _
  have hsz : (DataW.weightsEach Try.prog (Try.f3.params.toList ++ Rows.diskTellsSpec.plain.varTypes Try.prog) (ds ++ gs)).all (· ≤ reachBytes) = true := hsz0
  clear hsz0
  have hval : ∀ (j : Nat) t v, Try.f3.params[j]? = some t → args[j]? = some v → Value.okWide Try.prog W .any base t v := hval0
  have hW' := hW
  obtain ⟨p, q, hA0, hV, rfl, _, _⟩ := hW
  have hA : DataW.TrodAll enc Try.prog W 0 (fun _ => true) true Try.f3.params.toList args.toList ds p := hA0
  rw [Try.params3] at hA hval hsz
  obtain ⟨v0, d0, rfl, rfl, h0⟩ := trodAll_one hA
  obtain ⟨rfl, rfl⟩ := trodVars_none hV
  have hL : Light 27 d0 := fun n hn => by simpa using List.all_eq_true.1 hsz _ (DataW.weights_mem_each (j := 0) rfl rfl n hn)
  obtain ⟨AB, B, cb, AP, P, cp, f, AB', B', cb', AP', P', cp', f', n, at_, rfl, ⟨l1, l2⟩, ⟨l3, l4⟩, ⟨n1, n2⟩, hD, hD'⟩ := open_tells (hval 0 27 v0 rfl rfl) h0 hL
  clear hA0 hval0
  simp only [List.append_nil] at hW'
  have hlt : ∀ x ∈ p, x.block < W.heap.size := fun x hx => by simpa using hW'.lt x hx
  refine (tells_any AB cb AP cp f AB' cb' AP' cp' f' n at_ W B P B' P' hD hD' l1 l2 l3 l4 n1 n2).mono fun e W' ⟨he, hn⟩ => ?_
  subst he
  refine ⟨_, rfl, _, _, _, [], p, [], hW', ?_, ?_, rfl, hn.frame _, fun h => by cases h⟩
  · exact trodAll_mk1 (shut_bool Try.underlying4 true)
  · exact trodAll_mk1 (Below.trod Try.laidOut (by kernel_rfl) (of_decide_eq_true (by kernel_rfl)) h0 hn hlt)

theorem diskTells_holds : Rows.DiskTellsSaid :=
  OpenClaim.holds_of_wide 3 Try.f3 rfl rfl rfl rfl rfl rfl rfl ⟨rfl, rfl, rfl, rfl, rfl⟩ rfl rfl rfl rfl rfl (by kernel_rfl) Try.func3 (by kernel_rfl)
    (of_decide_eq_true (by kernel_rfl)) (by unfold Func.isWrapper; first | (rw [if_pos (by decide +kernel)]; kernel_rfl) | (rw [if_neg (by decide +kernel)]; exact ⟨rfl, rfl⟩))
    (fun os started H enc _ => tells_lifted os started H enc)
end Go.Proofs.Ytkfalgdhpojejaa
