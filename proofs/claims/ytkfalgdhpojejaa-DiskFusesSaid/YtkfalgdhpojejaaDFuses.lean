/- The law DiskFuses returns true for every input, and what it was handed reads as it did. No condition. -/
import Derived.Test.YtkfalgdhpojejaaWFuses
import Derived.Test.YtkfalgdhpojejaaX
namespace Go.Proofs.Ytkfalgdhpojejaa
open Go.RowKit Go.ChangeShapes Go.WideShapes Go.ChangeAt Go.Deep Go.Joins

theorem open_disk_v {H : Type} {enc : TypeId × Value → H} {w : World} {v : Value} {d : DataW H} {p : List MemPlace} (hv : Value.okWide Try.prog w .any 0 25 v) (h : DataW.Trod enc Try.prog w 0 (fun _ => true) true 25 v d p) (hL : Light 25 d) :
    ∃ AB B cb AP P cp f, v = .agg #[.slice AB (List.length B) cb, .slice AP (List.length P) cp, .int .i64 f] ∧ B.length ≤ 140737488351232 ∧ P.length ≤ 140737488351232 ∧ (-9223372036854775808 ≤ f ∧ f ≤ 9223372036854775807) ∧ OkD w AB AP cp B P := by
  obtain ⟨cs, rfl, hsz⟩ := okWide_struct Try.underlying25 hv
  obtain ⟨c0, c1, c2, rfl⟩ := array3 (hsz.trans Try.cells25)
  obtain ⟨fuel, hf⟩ := h
  obtain ⟨AB, B, cb, AP, P, cp, f, e0, e1, e2, e3, e4⟩ := open_disk hf hL
  simp only [Value.cells] at e0
  cases e0
  exact ⟨AB, B, cb, AP, P, cp, f, rfl, e1, e2, e3, e4⟩

set_option maxRecDepth 100000 in
theorem fuses_lifted (os : Os) (started : os.Started) (H : Type) (enc : TypeId × Value → H) :
    ReturnsInHanded {} Try.checked os 6 .any (Rows.diskFusesSpec.pre6 enc Try.prog Try.f6 Rows.diskFusesRow.domain false) (Rows.diskFusesSpec.post enc Try.prog Try.f6 false true false false) := by
  refine returnsInHanded_of_change_sized (C := Try.checked) Try.own started (by kernel_rfl) Try.func6
    (ChangeSpec.witness6 (enc := enc) (C := Try.checked) false ⟨#[], #[.agg #[.slice none 0 0, .slice none 0 0, .int .i64 0], .int .u8 0, .int .u8 0], []⟩ 8 (by kernel_rfl) (by kernel_rfl) (by kernel_rfl) (by kernel_rfl)) ?_
  intro W base args ds gs before hval0 hW _ hsz0 _
  have hsz : (DataW.weightsEach Try.prog (Try.f6.params.toList ++ Rows.diskFusesSpec.plain.varTypes Try.prog) (ds ++ gs)).all (· ≤ reachBytes) = true := hsz0
  clear hsz0
  have hval : ∀ (j : Nat) t v, Try.f6.params[j]? = some t → args[j]? = some v → Value.okWide Try.prog W .any base t v := hval0
  have hW' := hW
  obtain ⟨p, q, hA0, hV, rfl, _, _⟩ := hW
  have hA : DataW.TrodAll enc Try.prog W 0 (fun _ => true) true Try.f6.params.toList args.toList ds p := hA0
  rw [Try.params6] at hA hval hsz
  obtain ⟨v0, v1, v2, d0, d1, d2, p0, p1, p2, rfl, rfl, rfl, h0, h1, h2⟩ := trodAll_three hA
  obtain ⟨rfl, rfl⟩ := trodVars_none hV
  have hL : Light 25 d0 := fun n hn => by simpa using List.all_eq_true.1 hsz _ (DataW.weights_mem_each (j := 0) rfl rfl n hn)
  obtain ⟨AB, B, cb, AP, P, cp, f, rfl, l1, l2, _, hD⟩ := open_disk_v (hval 0 25 v0 rfl rfl) h0 hL
  obtain ⟨n, rfl, rfl, rfl, wn⟩ := open_int Try.underlying5 (hval 1 5 v1 rfl rfl) h1
  obtain ⟨m, rfl, rfl, rfl, wm⟩ := open_int Try.underlying5 (hval 2 5 v2 rfl rfl) h2
  clear hA0 hval0
  simp only [List.append_nil] at hW'
  have hlt : ∀ x ∈ p0, x.block < W.heap.size := fun x hx => by simpa using hW'.lt x hx
  refine (fuses_any AB cb AP cp f n m W B P hD l1 l2 (wf_u8 wn).1 (wf_u8 wn).2 (wf_u8 wm).1 (wf_u8 wm).2).mono fun e W' ⟨he, hn⟩ => ?_
  subst he
  refine ⟨_, rfl, _, _, _, [], p0 ++ ([] ++ []), [], hW', ?_, ?_, rfl, hn.frame _, fun h => by cases h⟩
  · exact trodAll_mk1 (shut_bool Try.underlying4 true)
  · exact trodAll_mk3 (Below.trod Try.laidOut (by kernel_rfl) (of_decide_eq_true (by kernel_rfl)) h0 hn hlt) (shut_int Try.underlying5 wn) (shut_int Try.underlying5 wm)

theorem diskFuses_holds : Rows.DiskFusesSaid :=
  OpenClaim.holds_of_wide 6 Try.f6 rfl rfl rfl rfl rfl rfl rfl ⟨rfl, rfl, rfl, rfl, rfl⟩ rfl rfl rfl rfl rfl (by kernel_rfl) Try.func6 (by kernel_rfl)
    (of_decide_eq_true (by kernel_rfl)) (by unfold Func.isWrapper; first | (rw [if_pos (by decide +kernel)]; kernel_rfl) | (rw [if_neg (by decide +kernel)]; exact ⟨rfl, rfl⟩))
    (fun os started H enc _ => fuses_lifted os started H enc)
end Go.Proofs.Ytkfalgdhpojejaa
