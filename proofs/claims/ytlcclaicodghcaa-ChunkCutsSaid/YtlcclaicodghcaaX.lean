import Derived.Test.YtlcclaicodghcaaH
import Derived.ProofKit
import Derived.SizedLaws
import Derived.Lib.SmallJoins
import Derived.Deep.Grids
namespace Go.Proofs.Ytlcclaicodghcaa
open Go.RowKit Go.ChangeShapes Go.WideShapes Go.ChangeAt Go.Deep Go.Joins

theorem Try.own : ownKnob Try.prog.godebug = none := by kernel_rfl
theorem Try.laidOut : laidOutB Try.prog = true := by kernel_rfl
theorem Try.cells5 : Try.prog.cellsOf 5 = 1 := by kernel_rfl
theorem Try.cells4 : Try.prog.cellsOf 4 = 1 := by kernel_rfl
theorem Try.cells22 : Try.prog.cellsOf 22 = 1 := by kernel_rfl
theorem Try.cells3 : Try.prog.cellsOf 3 = 1 := by kernel_rfl
theorem Try.cells9 : Try.prog.cellsOf 9 = 1 := by kernel_rfl
theorem Try.cells48 : Try.prog.cellsOf 48 = 1 := by kernel_rfl
theorem Try.cells54 : Try.prog.cellsOf 54 = 1 := by kernel_rfl
theorem Try.cells55 : Try.prog.cellsOf 55 = 1 := by kernel_rfl
theorem Try.bytes5 : Try.prog.bytesOf 5 = 1 := by kernel_rfl
theorem Try.bytes22 : Try.prog.bytesOf 22 = 24 := by kernel_rfl

/-- Nothing in it weighs more than the reach. -/
def Light {H : Type} (t : TypeId) (d : DataW H) : Prop := ∀ n ∈ d.weights Try.prog t, n ≤ reachBytes
theorem light_all {H : Type} {e : TypeId} : ∀ {l : List (DataW H)}, (∀ n ∈ DataW.weightsAll Try.prog e l, n ≤ reachBytes) → ∀ d ∈ l, Light e d
  | [], _, _, hd => by cases hd
  | x :: l, h, d, hd => by
    rw [DataW.weightsAll] at h
    rcases List.mem_cons.1 hd with rfl | hd
    · exact fun n hn => h n (List.mem_append_left _ hn)
    · exact light_all (fun n hn => h n (List.mem_append_right _ hn)) d hd
theorem light_each {H : Type} : ∀ {ts : List TypeId} {l : List (DataW H)}, (∀ n ∈ DataW.weightsEach Try.prog ts l, n ≤ reachBytes) → ∀ (i : Nat) t d, ts[i]? = some t → l[i]? = some d → Light t d
  | [], _, _, i, _, _, ht, _ => by simp at ht
  | _ :: _, [], _, i, _, _, _, hd => by simp at hd
  | t0 :: ts, d0 :: l, h, i, t, d, ht, hd => by
    rw [DataW.weightsEach] at h
    cases i with
    | zero =>
      simp at ht hd
      subst ht; subst hd
      exact fun n hn => h n (List.mem_append_left _ hn)
    | succ i => exact light_each (fun n hn => h n (List.mem_append_right _ hn)) i t d (by simpa using ht) (by simpa using hd)
theorem light_slice {H : Type} {t e : TypeId} {l s : List (DataW H)} (ht : Try.prog.underlying t = some (.slice e)) (h : Light t (.slice l s)) : (l.length + s.length) * Try.prog.bytesOf e ≤ reachBytes ∧ ∀ d ∈ l, Light e d := by
  unfold Light at h
  simp only [DataW.weights, ht] at h
  exact ⟨h _ (List.mem_cons_self ..), light_all fun n hn => h n (List.mem_cons_of_mem _ (List.mem_append_left _ hn))⟩

section
variable {H : Type} {enc : TypeId × Value → H} {w : World}

theorem addr_plain {w : World} {a : Addr} {v : Value} (h : w.cell? (a.add 0) = some v) : ∃ b off, a = ⟨b, off, none⟩ := by
  obtain ⟨b, off, spot⟩ := a
  have hs : spot = none := by simpa [Addr.add] using World.cell?_spot h
  exact ⟨b, off, by rw [hs]⟩

theorem wf_u8 {n : Int} (h : (Lit.int .u8 n).wf = true) : 0 ≤ n ∧ n ≤ 255 := by
  have h1 : IntKind.u8.min = 0 := rfl
  have h2 : IntKind.u8.max = 255 := rfl
  simp only [Lit.wf, Bool.and_eq_true, decide_eq_true_eq] at h
  omega
theorem wf_u16 {n : Int} (h : (Lit.int .u16 n).wf = true) : 0 ≤ n ∧ n ≤ 65535 := by
  have h1 : IntKind.u16.min = 0 := rfl
  have h2 : IntKind.u16.max = 65535 := rfl
  simp only [Lit.wf, Bool.and_eq_true, decide_eq_true_eq] at h
  omega
theorem wf_u32 {n : Int} (h : (Lit.int .u32 n).wf = true) : 0 ≤ n ∧ n ≤ 4294967295 := by
  have h1 : IntKind.u32.min = 0 := rfl
  have h2 : IntKind.u32.max = 4294967295 := rfl
  simp only [Lit.wf, Bool.and_eq_true, decide_eq_true_eq] at h
  omega
theorem wf_i64 {n : Int} (h : (Lit.int .i64 n).wf = true) : -9223372036854775808 ≤ n ∧ n ≤ 9223372036854775807 := by
  have h1 : IntKind.i64.min = -9223372036854775808 := rfl
  have h2 : IntKind.i64.max = 9223372036854775807 := rfl
  simp only [Lit.wf, Bool.and_eq_true, decide_eq_true_eq] at h
  omega

/-- A slice of bytes that came in. -/
theorem open_bytes {fuel : Nat} {cs : List Value} {x : DataW H × List MemPlace} (h : DataW.trod enc Try.prog w 0 (fun _ => true) true fuel 22 cs = some x) (hL : Light 22 x.1) :
    ∃ A bs c, cs = [.slice A (List.length bs) c] ∧ OkB w A c bs := by
  rcases open_ints Try.underlying22 Try.underlying5 Try.cells5 h with ⟨rfl, rfl⟩ | ⟨a, len, cap, zs, rfl, _, hl, hm, hz, rfl, hc, hw⟩
  · exact ⟨none, [], 0, rfl, OkB.nil w⟩
  · simp only [if_true] at hz
    have h1 := (light_slice Try.underlying22 hL).1
    rw [Try.bytes5] at h1
    simp only [lits, List.length_map, List.length_take, List.length_drop, reachBytes] at h1
    have hlen : ((zs.take len).map fun n => UInt8.ofNat n.toNat).length = len := by simp; omega
    refine ⟨some a, (zs.take len).map fun n => UInt8.ofNat n.toNat, cap, by rw [hlen], ?_, by omega, by omega, fun e => by cases e⟩
    by_cases h0 : len = 0
    · exact .inl (List.length_eq_zero_iff.1 (by omega))
    · obtain ⟨b, off, rfl⟩ := addr_plain (hc 0 (by omega))
      refine .inr ⟨b, off, rfl, fun i hi => ?_⟩
      have hi' : i < len := by omega
      have := hc i (by omega)
      rw [plain_add] at this
      rw [this]
      have hzi : i < zs.length := by omega
      have hb := wf_u8 (hw _ (List.getElem_mem hzi))
      simp only [List.getElem_map, List.getElem_take, List.getD_eq_getElem?_getD, List.getElem?_eq_getElem hzi, Option.getD_some, Option.some.injEq]
      congr 1
      simp only [UInt8.toNat_ofNat']
      omega
end
end Go.Proofs.Ytlcclaicodghcaa
