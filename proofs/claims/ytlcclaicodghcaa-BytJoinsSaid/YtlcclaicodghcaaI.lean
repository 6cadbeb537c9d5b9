import Derived.Shelf.Strings.Builder1
import Derived.Test.YtlcclaicodghcaaH
namespace Go.Proofs.Ytlcclaicodghcaa
open Go.Shelf Go.RowKit

/-! ### A builder's methods, by the library's contracts -/
def bld_ren : Go.Shelf.Ren := ⟨fun | 167 => 65 | 169 => 66 | 240 => 81 | 276 => 84 | n => n, fun | 0 => 0 | 4 => 4 | 5 => 5 | 9 => 9 | 20 => 20 | 37 => 22 | 70 => 108 | 72 => 110 | 75 => 112 | 164 => 127 | 3 => 3 | 127 => 125 | 80 => 114 | n => n, fun | n => n⟩
theorem bld167 : Go.Proofs.Lays.n167 Try.prog bld_ren := {
  mixed := by kernel_rfl
  f167 := Try.func65.trans (congrArg some (by kernel_rfl))
  f240 := Try.func81.trans (congrArg some (by kernel_rfl))
  f276 := Try.func84.trans (congrArg some (by kernel_rfl))
  t0 := Try.underlying0
  a0 := Try.isAgg0
  z0 := Try.sizeOf0
  v0 := Try.zeroValue0
  t4 := Try.underlying4
  a4 := Try.isAgg4
  z4 := Try.sizeOf4
  v4 := Try.zeroValue4
  t5 := Try.underlying5
  a5 := Try.isAgg5
  z5 := Try.sizeOf5
  v5 := Try.zeroValue5
  t9 := Try.underlying9
  a9 := Try.isAgg9
  z9 := Try.sizeOf9
  v9 := Try.zeroValue9
  t20 := Try.underlying20
  a20 := Try.isAgg20
  z20 := Try.sizeOf20
  v20 := Try.zeroValue20
  t37 := Try.underlying22
  a37 := Try.isAgg22
  z37 := Try.sizeOf22
  v37 := Try.zeroValue22
  t70 := Try.underlying108
  a70 := Try.isAgg108
  z70 := Try.sizeOf108
  v70 := Try.zeroValue108
  t72 := Try.underlying110
  a72 := Try.isAgg110
  z72 := Try.sizeOf110
  v72 := Try.zeroValue110
  t75 := Try.underlying112
  a75 := Try.isAgg112
  z75 := Try.sizeOf112
  v75 := Try.zeroValue112
  t164 := Try.underlying127
  a164 := Try.isAgg127
  z164 := Try.sizeOf127
  v164 := Try.zeroValue127 }
theorem bld169 : Go.Proofs.Lays.n169 Try.prog bld_ren := {
  mixed := by kernel_rfl
  f169 := Try.func66.trans (congrArg some (by kernel_rfl))
  t0 := Try.underlying0
  a0 := Try.isAgg0
  z0 := Try.sizeOf0
  v0 := Try.zeroValue0
  t3 := Try.underlying3
  a3 := Try.isAgg3
  z3 := Try.sizeOf3
  v3 := Try.zeroValue3
  t9 := Try.underlying9
  a9 := Try.isAgg9
  z9 := Try.sizeOf9
  v9 := Try.zeroValue9
  t37 := Try.underlying22
  a37 := Try.isAgg22
  z37 := Try.sizeOf22
  v37 := Try.zeroValue22
  t70 := Try.underlying108
  a70 := Try.isAgg108
  z70 := Try.sizeOf108
  v70 := Try.zeroValue108
  t72 := Try.underlying110
  a72 := Try.isAgg110
  z72 := Try.sizeOf110
  v72 := Try.zeroValue110
  t127 := Try.underlying125
  a127 := Try.isAgg125
  z127 := Try.sizeOf125
  v127 := Try.zeroValue125 }
theorem bld_extra : Builder.Extra Try.prog bld_ren := {
  sizeBuilder := by kernel_rfl
  liesBuilder := by kernel_rfl
  t5 := Try.underlying5
  a5 := Try.isAgg5
  z5 := Try.sizeOf5
  v5 := Try.zeroValue5
  infoByte := by kernel_rfl
  cellsByte := by kernel_rfl
  sizeByte := by kernel_rfl
  neB5 := by decide }
theorem writeByte_any (B b : Nat) (bs : List Value) (c : Int) (w : World) (h : Lib.IsBuilder 110 5 B b bs w) (hlen : bs.length + 1 ≤ 140737488355328) (hBw : B ≤ w.heap.size) :
    Calls Try.prog 65 #[.pointer (some ⟨b, 0, none⟩), .int .u8 c] w fun e w' => e = .returned .nilIface ∧ (Lib.BuilderAt 110 5 B b (.pointer (some ⟨b, 0, none⟩)) (bs ++ [.int .u8 c]) w' ∧ Below B w w') := Any.Builder_WriteByte bld167 bld_extra B b bs c w h hlen hBw
theorem string_any (B b : Nat) (l : List UInt8) (w : World) (h : Lib.IsBuilder 110 5 B b (Lib.byteCells l) w) (hBw : B ≤ w.heap.size) :
    Calls Try.prog 66 #[.pointer (some ⟨b, 0, none⟩)] w fun e w' => e = .returned (.string ⟨l.toArray⟩) ∧ Below B w w' := Any.Builder_String_any bld169 bld_extra B b l w h hBw
end Go.Proofs.Ytlcclaicodghcaa
