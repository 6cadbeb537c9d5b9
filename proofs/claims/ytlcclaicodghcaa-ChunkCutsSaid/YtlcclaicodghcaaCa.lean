import Derived.Test.YtlcclaicodghcaaH
import Derived.WalkSmall
import Derived.Deep.RegionHeld3
import Derived.Deep.DeepCutAuto
import Derived.Test.YtlcclaicodghcaaPa
import Derived.Lib.BytesEntry
import Derived.Shelf.Spec.SlicesGrow
import Derived.Ground.Names8Prog
namespace Go.Proofs.Ytlcclaicodghcaa
open Go.RowKit

/-- slices.Grow's contract at this program. -/
def growB_ren : Go.Shelf.Ren := ⟨fun | 4 => 82 | n => n, fun | 25 => 5 | n => n, fun | n => n⟩
theorem growB : Go.Proofs.Lays8.n4 Try.prog growB_ren := {
  mixed := by kernel_rfl
  f4 := ⟨Try.f82.name, by decide, Try.func82.trans (congrArg some (by kernel_rfl))⟩
  t0 := Try.underlying0
  a0 := Try.isAgg0
  z0 := Try.sizeOf0
  v0 := Try.zeroValue0
  t3 := Try.underlying3
  a3 := Try.isAgg3
  z3 := Try.sizeOf3
  v3 := Try.zeroValue3
  t4 := Try.underlying4
  a4 := Try.isAgg4
  z4 := Try.sizeOf4
  v4 := Try.zeroValue4
  t9 := Try.underlying9
  a9 := Try.isAgg9
  z9 := Try.sizeOf9
  v9 := Try.zeroValue9
  t20 := Try.underlying20
  a20 := Try.isAgg20
  z20 := Try.sizeOf20
  v20 := Try.zeroValue20
  t22 := Try.underlying22
  a22 := Try.isAgg22
  z22 := Try.sizeOf22
  v22 := Try.zeroValue22 }
theorem quiet_left {P : Program} {f : FuncId} {args : Array Value} {w : World} {n : Nat} {v : Value}
    (h : Calls P f args (w.drewN n) fun e w' => e = .returned v ∧ w.drewN n = w') : Calls P f args (w.drewN n) fun e w'' => e = .returned v ∧ ∃ m, w'' = w.drewN m :=
  h.mono fun _ _ ⟨he, hm⟩ => ⟨he, n, hm.symm⟩
theorem run_bytesOf {P : Program} {w : World} {A : Option Addr} {c : Nat} {bs : List UInt8} (h : RB w A bs) : (Extern.Bytes.bytesOf (.slice A bs.length c)).run P w = .ok (strOf bs) w := by
  rcases h with rfl | ⟨b, off, rfl, hc⟩
  · cases A <;> rfl
  · show (Extern.Bytes.loadBytes ⟨b, off, none⟩ bs.length .empty).run P w = _
    have hl := Lib.run_loadBytesX (P := P) w (bs.map fun x => (x.toNat : Int)) ⟨b, off, none⟩ .empty (fun j x hj => by
      rw [List.getElem?_map] at hj
      obtain ⟨y, h1, rfl⟩ := Option.map_eq_some_iff.1 hj
      obtain ⟨h2, rfl⟩ := List.getElem?_eq_some_iff.1 h1
      rw [plain_add, hc j h2])
    rw [List.length_map] at hl
    rw [hl]
    have e : Lib.bytesOf (bs.map fun x => (x.toNat : Int)) = bs := by
      simp only [Lib.bytesOf, List.map_map]
      conv => rhs; rw [← List.map_id bs]
      apply List.map_congr_left
      intro x _
      simp
    rw [e]; simp [strOf]
set_option maxHeartbeats 400000 in
theorem compare_any (A : Option Addr) (c : Nat) (x : List UInt8) (A' : Option Addr) (c' : Nat) (y : List UInt8) (w : World) (hx : OkB w A c x) (hy : OkB w A' c' y) (v : Int) (hv : Lib.compareBytes x y = v) :
    Calls Try.prog 73 #[.slice A x.length c, .slice A' y.length c'] w fun e w' => e = .returned (.int .i64 v) ∧ w = w' := by
  subst hv
  have hr : (Extern.BytealgCompare.compare #[.slice A x.length c, .slice A' y.length c']).run Try.prog w = .ok (.int .i64 (Lib.compareBytes x y)) w := by
    change Sem.run Try.prog (do pure (goInt (Extern.BytealgCompare.cmp (← Extern.Bytes.bytesOf (.slice A x.length c)) (← Extern.Bytes.bytesOf (.slice A' y.length c'))))) w = _
    simp only [Sem.run_bind, Sem.run_pure, Result.andThen, run_bytesOf hx.1, run_bytesOf hy.1]
    rw [Lib.cmp_eq]; rfl
  clear hx hy
  go_enter Try.func73, Try.ntmps73
  go_wp2
  rw [run_callFunc_extern Try.func83 (by kernel_rfl) (by kernel_rfl) (by kernel_rfl) (e := Extern.BytealgCompare.compare) (by kernel_rfl), hr]
  simp only [Result.andThen]
  rw [Oper.upon_value]
  go_wp2
  go_ret
  exact ⟨rfl, rfl⟩
end Go.Proofs.Ytlcclaicodghcaa
