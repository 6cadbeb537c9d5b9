/- The law DiskLast returns true for every input, and what it was handed reads as it did. No condition. -/
import Derived.Test.YtkfalgdhpojejaaWLast
import Derived.Test.YtkfalgdhpojejaaX
namespace Go.Proofs.Ytkfalgdhpojejaa
open Go.RowKit Go.ChangeShapes Go.WideShapes Go.ChangeAt Go.Deep Go.Joins

theorem Try.cells63 : Try.prog.cellsOf 63 = 4 := by kernel_rfl

theorem array_diskLast {α : Type} {cs : Array α} (h : cs.size = 4) : ∃ c0 c1 c2 c3, cs = #[c0, c1, c2, c3] := by
  obtain ⟨l⟩ := cs
  match l, h with
  | [c0, c1, c2, c3], _ => exact ⟨c0, c1, c2, c3, rfl⟩
theorem trod_diskLast {H : Type} {enc : TypeId × Value → H} {P : Program} {w : World} {base : Nat} {spare : Nat → Bool} {held : Bool} {t : TypeId} {f0 f1 f2 f3 : Field} {fuel : Nat} {cs : List Value} {x : DataW H × List MemPlace} (ht : P.underlying t = some (.struct #[f0, f1, f2, f3])) (h : DataW.trod enc P w base spare held fuel t cs = some x) :
    ∃ y0 y1 y2 y3 n, x.1 = .agg [y0.1, y1.1, y2.1, y3.1] ∧ DataW.trod enc P w base spare held n f0.type ((cs.drop f0.offset).take (P.cellsOf f0.type)) = some y0 ∧ DataW.trod enc P w base spare held n f1.type ((cs.drop f1.offset).take (P.cellsOf f1.type)) = some y1 ∧ DataW.trod enc P w base spare held n f2.type ((cs.drop f2.offset).take (P.cellsOf f2.type)) = some y2 ∧ DataW.trod enc P w base spare held n f3.type ((cs.drop f3.offset).take (P.cellsOf f3.type)) = some y3 := by
  obtain ⟨xs, n, _, rfl, hl, hlen, hf⟩ := DataW.trod_struct ht h
  match xs, hlen with
  | [y0, y1, y2, y3], _ => exact ⟨y0, y1, y2, y3, n, by simp, by simpa using hf 0 f0 rfl, by simpa using hf 1 f1 rfl, by simpa using hf 2 f2 rfl, by simpa using hf 3 f3 rfl⟩

theorem open_diskLast {H : Type} {enc : TypeId × Value → H} {w : World} {v : Value} {d : DataW H} {p : List MemPlace} (hv : Value.okWide Try.prog w .any 0 63 v) (h : DataW.Trod enc Try.prog w 0 (fun _ => true) true 63 v d p) (hL : Light 63 d) :
    ∃ n at_ A L c AK K cK, v = .agg #[.int .u8 n, .int .u8 at_, .slice A (List.length L) c, .slice AK (List.length K) cK] ∧
      (0 ≤ n ∧ n ≤ 255) ∧ (0 ≤ at_ ∧ at_ ≤ 255) ∧ OkB w A c L ∧ K.length ≤ 140737488351232 ∧ RL w AK K := by
  obtain ⟨cs, rfl, hsz⟩ := okWide_struct Try.underlying63 hv
  obtain ⟨c0, c1, c2, c3, rfl⟩ := array_diskLast (hsz.trans Try.cells63)
  obtain ⟨fuel, hf⟩ := h
  obtain ⟨y0, y1, y2, y3, n, hx, h0, h1, h2, h3⟩ := trod_diskLast Try.underlying63 hf
  rw [show d = _ from hx] at hL
  have hE : ∀ (i : Nat) t d, [5, 5, 37, 44][i]? = some t → [y0.1, y1.1, y2.1, y3.1][i]? = some d → Light t d := by
    unfold Light at hL
    simp only [DataW.weights, Try.underlying63] at hL
    exact light_each hL
  simp only [Value.cells, Try.cells5, Try.cells37, Try.cells44, List.drop_zero, List.take_succ_cons, List.take_zero, List.drop_succ_cons] at h0 h1 h2 h3
  obtain ⟨n, e0, _, r0⟩ := DataW.trod_int Try.underlying5 h0
  obtain ⟨at_, e1, _, r1⟩ := DataW.trod_int Try.underlying5 h1
  obtain ⟨A, L, c, e2, a2, b2, k2⟩ := open_bytes h2 (hE 2 37 _ rfl rfl)
  obtain ⟨AK, K, cK, e3, a3, k3⟩ := open_keep h3 (hE 3 44 _ rfl rfl)
  cases e0; cases e1; cases e2; cases e3
  exact ⟨_, _, _, _, _, _, _, _, rfl, wf_u8 r0, wf_u8 r1, ⟨(k2.foot).mono fun _ _ => trivial, a2, b2⟩, a3, k3⟩

set_option maxRecDepth 100000 in
theorem diskLast_lifted (os : Os) (started : os.Started) (H : Type) (enc : TypeId × Value → H) :
    ReturnsInHanded {} Try.checked os 8 .any (Rows.diskLastSpec.pre6 enc Try.prog Try.f8 Rows.diskLastRow.domain false) (Rows.diskLastSpec.post enc Try.prog Try.f8 false true false false) := by
  refine returnsInHanded_of_change_sized (C := Try.checked) Try.own started (by kernel_rfl) Try.func8
    (ChangeSpec.witness6 (enc := enc) (C := Try.checked) false ⟨#[], #[.agg #[.int .u8 0, .int .u8 0, .slice none 0 0, .slice none 0 0]], []⟩ 8 (by kernel_rfl) (by kernel_rfl) (by kernel_rfl) (by kernel_rfl)) ?_
  intro W base args ds gs before hval0 hW _ hsz0 _
  have hsz : (DataW.weightsEach Try.prog (Try.f8.params.toList ++ Rows.diskLastSpec.plain.varTypes Try.prog) (ds ++ gs)).all (· ≤ reachBytes) = true := hsz0
  clear hsz0
  have hval : ∀ (j : Nat) t v, Try.f8.params[j]? = some t → args[j]? = some v → Value.okWide Try.prog W .any base t v := hval0
  have hW' := hW
  obtain ⟨p, q, hA0, hV, rfl, _, _⟩ := hW
  have hA : DataW.TrodAll enc Try.prog W 0 (fun _ => true) true Try.f8.params.toList args.toList ds p := hA0
  rw [Try.params8] at hA hval hsz
  obtain ⟨v0, d0, rfl, rfl, h0⟩ := trodAll_one hA
  obtain ⟨rfl, rfl⟩ := trodVars_none hV
  have hL : Light 63 d0 := fun n hn => by simpa using List.all_eq_true.1 hsz _ (DataW.weights_mem_each (j := 0) rfl rfl n hn)
  obtain ⟨n, at_, A, L, c, AK, K, cK, rfl, ⟨n0, o0⟩, ⟨n1, o1⟩, q2, l3, q3⟩ := open_diskLast (hval 0 63 v0 rfl rfl) h0 hL
  clear hA0 hval0
  simp only [List.append_nil] at hW'
  have hlt : ∀ x ∈ p, x.block < W.heap.size := fun x hx => by simpa using hW'.lt x hx
  refine (last_any n at_ A c AK cK W L K q2 q3 n0 o0 n1 o1).mono fun e W' ⟨he, hn⟩ => ?_
  subst he
  refine ⟨_, rfl, _, _, _, [], p, [], hW', ?_, ?_, rfl, hn.frame _, fun h => by cases h⟩
  · exact trodAll_mk1 (shut_bool Try.underlying4 true)
  · exact trodAll_mk1 (Below.trod Try.laidOut (by kernel_rfl) (of_decide_eq_true (by kernel_rfl)) h0 hn hlt)

theorem diskLast_holds : Rows.DiskLastSaid :=
  OpenClaim.holds_of_wide 8 Try.f8 rfl rfl rfl rfl rfl rfl rfl ⟨rfl, rfl, rfl, rfl, rfl⟩ rfl rfl rfl rfl rfl (by kernel_rfl) Try.func8 (by kernel_rfl)
    (of_decide_eq_true (by kernel_rfl)) (by unfold Func.isWrapper; first | (rw [if_pos (by decide +kernel)]; kernel_rfl) | (rw [if_neg (by decide +kernel)]; exact ⟨rfl, rfl⟩))
    (fun os started H enc _ => diskLast_lifted os started H enc)
end Go.Proofs.Ytkfalgdhpojejaa
