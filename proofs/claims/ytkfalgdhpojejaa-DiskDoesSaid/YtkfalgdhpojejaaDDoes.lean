/- The law DiskDoes returns true for every input, and what it was handed reads as it did. No condition. -/
import Derived.Test.YtkfalgdhpojejaaWDoes
import Derived.Test.YtkfalgdhpojejaaX
namespace Go.Proofs.Ytkfalgdhpojejaa
open Go.RowKit Go.ChangeShapes Go.WideShapes Go.ChangeAt Go.Deep Go.Joins

theorem Try.cells46 : Try.prog.cellsOf 46 = 7 := by kernel_rfl

theorem array7 {α : Type} {cs : Array α} (h : cs.size = 7) : ∃ c0 c1 c2 c3 c4 c5 c6, cs = #[c0, c1, c2, c3, c4, c5, c6] := by
  obtain ⟨l⟩ := cs
  match l, h with
  | [c0, c1, c2, c3, c4, c5, c6], _ => exact ⟨c0, c1, c2, c3, c4, c5, c6, rfl⟩
theorem trod_struct5 {H : Type} {enc : TypeId × Value → H} {P : Program} {w : World} {base : Nat} {spare : Nat → Bool} {held : Bool} {t : TypeId} {f0 f1 f2 f3 f4 : Field} {fuel : Nat} {cs : List Value} {x : DataW H × List MemPlace} (ht : P.underlying t = some (.struct #[f0, f1, f2, f3, f4])) (h : DataW.trod enc P w base spare held fuel t cs = some x) :
    ∃ y0 y1 y2 y3 y4 n, x.1 = .agg [y0.1, y1.1, y2.1, y3.1, y4.1] ∧ DataW.trod enc P w base spare held n f0.type ((cs.drop f0.offset).take (P.cellsOf f0.type)) = some y0 ∧
      DataW.trod enc P w base spare held n f1.type ((cs.drop f1.offset).take (P.cellsOf f1.type)) = some y1 ∧ DataW.trod enc P w base spare held n f2.type ((cs.drop f2.offset).take (P.cellsOf f2.type)) = some y2 ∧
      DataW.trod enc P w base spare held n f3.type ((cs.drop f3.offset).take (P.cellsOf f3.type)) = some y3 ∧ DataW.trod enc P w base spare held n f4.type ((cs.drop f4.offset).take (P.cellsOf f4.type)) = some y4 := by
  obtain ⟨xs, n, _, rfl, hl, hlen, hf⟩ := DataW.trod_struct ht h
  match xs, hlen with
  | [y0, y1, y2, y3, y4], _ => exact ⟨y0, y1, y2, y3, y4, n, by simp, by simpa using hf 0 f0 rfl, by simpa using hf 1 f1 rfl, by simpa using hf 2 f2 rfl, by simpa using hf 3 f3 rfl, by simpa using hf 4 f4 rfl⟩

theorem open_does {H : Type} {enc : TypeId × Value → H} {w : World} {v : Value} {d : DataW H} {p : List MemPlace} (hv : Value.okWide Try.prog w .any 0 46 v) (h : DataW.Trod enc Try.prog w 0 (fun _ => true) true 46 v d p) (hL : Light 46 d) :
    ∃ AB B cb AP P cp f at_ A bs c AK K cK n, v = .agg #[.slice AB (List.length B) cb, .slice AP (List.length P) cp, .int .i64 f, .int .i64 at_, .slice A (List.length bs) c, .slice AK (List.length K) cK, .int .i64 n] ∧
      (B.length ≤ 140737488351232 ∧ P.length ≤ 140737488351232) ∧ (-9223372036854775808 ≤ f ∧ f ≤ 9223372036854775807) ∧ OkD w AB AP cp B P ∧ OkB w A c bs ∧ RL w AK K := by
  obtain ⟨cs, rfl, hsz⟩ := okWide_struct Try.underlying46 hv
  obtain ⟨c0, c1, c2, c3, c4, c5, c6, rfl⟩ := array7 (hsz.trans Try.cells46)
  obtain ⟨fuel, hf⟩ := h
  obtain ⟨y0, y1, y2, y3, y4, n, hx, h0, h1, h2, h3, h4⟩ := trod_struct5 Try.underlying46 hf
  rw [show d = _ from hx] at hL
  have hE : ∀ (i : Nat) t d, [25, 3, 37, 44, 3][i]? = some t → [y0.1, y1.1, y2.1, y3.1, y4.1][i]? = some d → Light t d := by
    unfold Light at hL
    simp only [DataW.weights, Try.underlying46] at hL
    exact light_each hL
  simp only [Value.cells, Try.cells25, Try.cells3, Try.cells37, Try.cells44, List.drop_zero, List.take_succ_cons, List.take_zero, List.drop_succ_cons] at h0 h1 h2 h3 h4
  obtain ⟨AB, B, cb, AP, P, cp, f, e0, e1, e2, e3, e4⟩ := open_disk h0 (hE 0 25 _ rfl rfl)
  obtain ⟨z, k0, _, _⟩ := DataW.trod_int Try.underlying3 h1
  obtain ⟨A, bs, c, k1, k2, k3, k4⟩ := open_bytes h2 (hE 2 37 _ rfl rfl)
  obtain ⟨AK, K, cK, k5, k6, k7⟩ := open_keep h3 (hE 3 44 _ rfl rfl)
  obtain ⟨z', k8, _, _⟩ := DataW.trod_int Try.underlying3 h4
  cases e0; cases k0; cases k1; cases k5; cases k8
  exact ⟨_, _, _, _, _, _, _, _, _, _, _, _, _, _, _, rfl, ⟨e1, e2⟩, e3, e4, ⟨(k4.foot).mono fun _ _ => trivial, k2, k3⟩, k7⟩

set_option maxRecDepth 100000 in
theorem does_lifted (os : Os) (started : os.Started) (H : Type) (enc : TypeId × Value → H) :
    ReturnsInHanded {} Try.checked os 4 .any (Rows.diskDoesSpec.pre6 enc Try.prog Try.f4 Rows.diskDoesRow.domain false) (Rows.diskDoesSpec.post enc Try.prog Try.f4 false true false false) := by
  refine returnsInHanded_of_change_sized (C := Try.checked) Try.own started (by kernel_rfl) Try.func4
    (ChangeSpec.witness6 (enc := enc) (C := Try.checked) false ⟨#[], #[.agg #[.slice none 0 0, .slice none 0 0, .int .i64 0, .int .i64 0, .slice none 0 0, .slice none 0 0, .int .i64 0]], []⟩ 8 (by kernel_rfl) (by kernel_rfl) (by kernel_rfl) (by kernel_rfl)) ?_
  intro W base args ds gs before hval0 hW _ hsz0 _
  have hsz : (DataW.weightsEach Try.prog (Try.f4.params.toList ++ Rows.diskDoesSpec.plain.varTypes Try.prog) (ds ++ gs)).all (· ≤ reachBytes) = true := hsz0
  clear hsz0
  have hval : ∀ (j : Nat) t v, Try.f4.params[j]? = some t → args[j]? = some v → Value.okWide Try.prog W .any base t v := hval0
  have hW' := hW
  obtain ⟨p, q, hA0, hV, rfl, _, _⟩ := hW
  have hA : DataW.TrodAll enc Try.prog W 0 (fun _ => true) true Try.f4.params.toList args.toList ds p := hA0
  rw [Try.params4] at hA hval hsz
  obtain ⟨v0, d0, rfl, rfl, h0⟩ := trodAll_one hA
  obtain ⟨rfl, rfl⟩ := trodVars_none hV
  have hL : Light 46 d0 := fun n hn => by simpa using List.all_eq_true.1 hsz _ (DataW.weights_mem_each (j := 0) rfl rfl n hn)
  obtain ⟨AB, B, cb, AP, P, cp, f, at_, A, bs, c, AK, K, cK, n, rfl, ⟨l1, l2⟩, ⟨n1, n2⟩, hD, hR, hK⟩ := open_does (hval 0 46 v0 rfl rfl) h0 hL
  clear hA0 hval0
  simp only [List.append_nil] at hW'
  have hlt : ∀ x ∈ p, x.block < W.heap.size := fun x hx => by simpa using hW'.lt x hx
  refine (does_any AB cb AP cp f at_ A c AK cK n W B P bs K hD hR hK l1 l2 n1 n2).mono fun e W' ⟨he, hn⟩ => ?_
  subst he
  refine ⟨_, rfl, _, _, _, [], p, [], hW', ?_, ?_, rfl, hn.frame _, fun h => by cases h⟩
  · exact trodAll_mk1 (shut_bool Try.underlying4 true)
  · exact trodAll_mk1 (Below.trod Try.laidOut (by kernel_rfl) (of_decide_eq_true (by kernel_rfl)) h0 hn hlt)

theorem diskDoes_holds : Rows.DiskDoesSaid :=
  OpenClaim.holds_of_wide 4 Try.f4 rfl rfl rfl rfl rfl rfl rfl ⟨rfl, rfl, rfl, rfl, rfl⟩ rfl rfl rfl rfl rfl (by kernel_rfl) Try.func4 (by kernel_rfl)
    (of_decide_eq_true (by kernel_rfl)) (by unfold Func.isWrapper; first | (rw [if_pos (by decide +kernel)]; kernel_rfl) | (rw [if_neg (by decide +kernel)]; exact ⟨rfl, rfl⟩))
    (fun os started H enc _ => does_lifted os started H enc)
end Go.Proofs.Ytkfalgdhpojejaa
