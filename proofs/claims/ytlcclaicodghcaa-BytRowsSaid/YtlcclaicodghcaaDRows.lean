/- The law BytRows returns true for every input, and what it was handed reads as it did. No condition. -/
import Derived.Test.YtlcclaicodghcaaWRows
import Derived.Test.YtlcclaicodghcaaX
namespace Go.Proofs.Ytlcclaicodghcaa
open Go.RowKit Go.ChangeShapes Go.WideShapes Go.ChangeAt Go.Deep Go.Joins

theorem Try.cells61 : Try.prog.cellsOf 61 = 5 := by kernel_rfl
theorem array_bytRows {α : Type} {cs : Array α} (h : cs.size = 5) : ∃ c0 c1 c2 c3 c4, cs = #[c0, c1, c2, c3, c4] := by
  obtain ⟨l⟩ := cs
  match l, h with
  | [c0, c1, c2, c3, c4], _ => exact ⟨c0, c1, c2, c3, c4, rfl⟩
theorem trod_bytRows {H : Type} {enc : TypeId × Value → H} {P : Program} {w : World} {base : Nat} {spare : Nat → Bool} {held : Bool} {t : TypeId} {f0 f1 f2 f3 f4 : Field} {fuel : Nat} {cs : List Value} {x : DataW H × List MemPlace} (ht : P.underlying t = some (.struct #[f0, f1, f2, f3, f4])) (h : DataW.trod enc P w base spare held fuel t cs = some x) :
    ∃ y0 y1 y2 y3 y4 n, x.1 = .agg [y0.1, y1.1, y2.1, y3.1, y4.1] ∧ DataW.trod enc P w base spare held n f0.type ((cs.drop f0.offset).take (P.cellsOf f0.type)) = some y0 ∧ DataW.trod enc P w base spare held n f1.type ((cs.drop f1.offset).take (P.cellsOf f1.type)) = some y1 ∧ DataW.trod enc P w base spare held n f2.type ((cs.drop f2.offset).take (P.cellsOf f2.type)) = some y2 ∧ DataW.trod enc P w base spare held n f3.type ((cs.drop f3.offset).take (P.cellsOf f3.type)) = some y3 ∧ DataW.trod enc P w base spare held n f4.type ((cs.drop f4.offset).take (P.cellsOf f4.type)) = some y4 := by
  obtain ⟨xs, n, _, rfl, hl, hlen, hf⟩ := DataW.trod_struct ht h
  match xs, hlen with
  | [y0, y1, y2, y3, y4], _ => exact ⟨y0, y1, y2, y3, y4, n, by simp, by simpa using hf 0 f0 rfl, by simpa using hf 1 f1 rfl, by simpa using hf 2 f2 rfl, by simpa using hf 3 f3 rfl, by simpa using hf 4 f4 rfl⟩
set_option maxRecDepth 100000 in
theorem open_bytRows {H : Type} {enc : TypeId × Value → H} {w : World} {v : Value} {d : DataW H} {p : List MemPlace} (hv : Value.okWide Try.prog w .any 0 61 v) (h : DataW.Trod enc Try.prog w 0 (fun _ => true) true 61 v d p) (hL : Light 61 d) :
    ∃ A b c at_ most is s, v = .agg #[.slice A (List.length b) c, .int .i64 at_, .int .i64 most, .bool is, .string s] ∧
      OkB w A c b ∧ (-9223372036854775808 ≤ at_ ∧ at_ ≤ 9223372036854775807) ∧ (-9223372036854775808 ≤ most ∧ most ≤ 9223372036854775807) ∧ True ∧ (ByteArray.size s ≤ maxLen) := by
  obtain ⟨cs, rfl, hsz⟩ := okWide_struct Try.underlying61 hv
  obtain ⟨c0, c1, c2, c3, c4, rfl⟩ := array_bytRows (hsz.trans Try.cells61)
  obtain ⟨fuel, hf⟩ := h
  obtain ⟨y0, y1, y2, y3, y4, n, hx, h0, h1, h2, h3, h4⟩ := trod_bytRows Try.underlying61 hf
  rw [show d = _ from hx] at hL
  have hE : ∀ (i : Nat) t d, [22, 3, 3, 4, 9][i]? = some t → [y0.1, y1.1, y2.1, y3.1, y4.1][i]? = some d → Light t d := by
    unfold Light at hL
    simp only [DataW.weights, Try.underlying61] at hL
    exact light_each hL
  simp only [Value.cells, Try.cells3, Try.cells4, Try.cells9, Try.cells22, List.drop_zero, List.take_succ_cons, List.take_zero, List.drop_succ_cons] at h0 h1 h2 h3 h4
  obtain ⟨A, b, c, e0, k0⟩ := open_bytes h0 (hE 0 22 _ rfl rfl)
  obtain ⟨at_, e1, _, r1⟩ := DataW.trod_int Try.underlying3 h1
  obtain ⟨most, e2, _, r2⟩ := DataW.trod_int Try.underlying3 h2
  obtain ⟨is, e3, _⟩ := DataW.trod_bool Try.underlying4 h3
  obtain ⟨s, e4, _, r4⟩ := DataW.trod_string Try.underlying9 h4
  cases e0; cases e1; cases e2; cases e3; cases e4
  exact ⟨_, _, _, _, _, _, _, rfl, k0, wf_i64 r1, wf_i64 r2, trivial, r4⟩

set_option maxRecDepth 100000 in
theorem bytRows_lifted (os : Os) (started : os.Started) (H : Type) (enc : TypeId × Value → H) :
    ReturnsInHanded {} Try.checked os 9 .any (Rows.bytRowsSpec.pre6 enc Try.prog Try.f9 Rows.bytRowsRow.domain false) (Rows.bytRowsSpec.post enc Try.prog Try.f9 false true false false) := by
  refine returnsInHanded_of_change_sized (C := Try.checked) Try.own started (by kernel_rfl) Try.func9
    (ChangeSpec.witness6 (enc := enc) (C := Try.checked) false ⟨#[], #[.agg #[.slice none 0 0, .int .i64 0, .int .i64 0, .bool false, .string ByteArray.empty]], []⟩ 8 (by kernel_rfl) (by kernel_rfl) (by kernel_rfl) (by kernel_rfl)) ?_
  intro W base args ds gs before hval0 hW _ hsz0 _
  have hsz : (DataW.weightsEach Try.prog (Try.f9.params.toList ++ Rows.bytRowsSpec.plain.varTypes Try.prog) (ds ++ gs)).all (· ≤ reachBytes) = true := hsz0
  clear hsz0
  have hval : ∀ (j : Nat) t v, Try.f9.params[j]? = some t → args[j]? = some v → Value.okWide Try.prog W .any base t v := hval0
  have hW' := hW
  obtain ⟨p, q, hA0, hV, rfl, _, _⟩ := hW
  have hA : DataW.TrodAll enc Try.prog W 0 (fun _ => true) true Try.f9.params.toList args.toList ds p := hA0
  rw [Try.params9] at hA hval hsz
  obtain ⟨v0, d0, rfl, rfl, h0⟩ := trodAll_one hA
  obtain ⟨rfl, rfl⟩ := trodVars_none hV
  have hL : Light 61 d0 := fun n hn => by simpa using List.all_eq_true.1 hsz _ (DataW.weights_mem_each (j := 0) rfl rfl n hn)
  obtain ⟨A, b, c, at_, most, is, s, rfl, q0, ⟨n1, o1⟩, ⟨n2, o2⟩, -, n4⟩ := open_bytRows (hval 0 61 v0 rfl rfl) h0 hL
  clear hA0 hval0
  simp only [List.append_nil] at hW'
  have hlt : ∀ x ∈ p, x.block < W.heap.size := fun x hx => by simpa using hW'.lt x hx
  refine (rows_any A c b at_ most is s W q0).mono fun e W' ⟨he, hn⟩ => ?_
  subst he
  refine ⟨_, rfl, _, _, _, [], p, [], hW', ?_, ?_, rfl, hn.frame _, fun h => by cases h⟩
  · exact trodAll_mk1 (shut_bool Try.underlying4 true)
  · exact trodAll_mk1 (Below.trod Try.laidOut (by kernel_rfl) (of_decide_eq_true (by kernel_rfl)) h0 hn hlt)

theorem bytRows_holds : Rows.BytRowsSaid :=
  OpenClaim.holds_of_wide 9 Try.f9 rfl rfl rfl rfl rfl rfl rfl ⟨rfl, rfl, rfl, rfl, rfl⟩ rfl rfl rfl rfl rfl (by kernel_rfl) Try.func9 (by kernel_rfl)
    (of_decide_eq_true (by kernel_rfl)) (by unfold Func.isWrapper; first | (rw [if_pos (by decide +kernel)]; kernel_rfl) | (rw [if_neg (by decide +kernel)]; exact ⟨rfl, rfl⟩))
    (fun os started H enc _ => bytRows_lifted os started H enc)
end Go.Proofs.Ytlcclaicodghcaa
