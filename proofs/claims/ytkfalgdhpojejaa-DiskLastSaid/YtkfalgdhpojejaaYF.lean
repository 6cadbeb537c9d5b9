import Derived.Test.YtkfalgdhpojejaaY
namespace Go.Proofs.Ytkfalgdhpojejaa
open Go.RowKit

/-- What a disk's two slices hold, in blocks of a kind. -/
def OkF (φ : Nat → Prop) (w : World) (AB AP : Option Addr) (cp : Nat) (B : List (List UInt8)) (P : List PutD) : Prop :=
  RBBF φ w AB B ∧ RPF φ w AP P ∧ P.length ≤ cp ∧ (AP = none → cp = 0)
theorem OkF.okD {φ : Nat → Prop} {w : World} {AB AP : Option Addr} {cp : Nat} {B : List (List UInt8)} {P : List PutD} (h : OkF φ w AB AP cp B P) : OkD w AB AP cp B P :=
  ⟨h.1.mono fun _ _ => trivial, h.2.1.mono fun _ _ => trivial, h.2.2⟩
theorem OkF.mono {φ ψ : Nat → Prop} {w : World} {AB AP : Option Addr} {cp : Nat} {B : List (List UInt8)} {P : List PutD} (h : OkF φ w AB AP cp B P) (hm : ∀ b, φ b → ψ b) : OkF ψ w AB AP cp B P := ⟨h.1.mono hm, h.2.1.mono hm, h.2.2⟩
theorem OkF.kept {φ : Nat → Prop} {w w' : World} {AB AP : Option Addr} {cp : Nat} {B : List (List UInt8)} {P : List PutD} (h : OkF φ w AB AP cp B P) (hk : Kept φ w w') : OkF φ w' AB AP cp B P := ⟨h.1.kept hk, h.2.1.kept hk, h.2.2⟩
theorem OkF.ext {φ : Nat → Prop} {w w' : World} {AB AP : Option Addr} {cp : Nat} {B : List (List UInt8)} {P : List PutD} (h : OkF φ w AB AP cp B P) (hb : Below w.heap.size w w') : OkF φ w' AB AP cp B P := h.kept (Kept.below _ hb)
theorem OkF.low {φ : Nat → Prop} {w : World} {AB AP : Option Addr} {cp : Nat} {B : List (List UInt8)} {P : List PutD} (h : OkF φ w AB AP cp B P) : OkF (fun b => φ b ∧ b < w.heap.size) w AB AP cp B P := ⟨h.1.low, h.2.1.low, h.2.2⟩
theorem OkD.okF {w : World} {AB AP : Option Addr} {cp : Nat} {B : List (List UInt8)} {P : List PutD} (h : OkD w AB AP cp B P) : OkF (· < w.heap.size) w AB AP cp B P :=
  ⟨h.1.low.mono fun _ h => h.2, h.2.1.low.mono fun _ h => h.2, h.2.2⟩
/-- Behind a store into a block that is none of its blocks. -/
theorem OkF.set3 {φ : Nat → Prop} {w : World} {AB AP : Option Addr} {cp : Nat} {B : List (List UInt8)} {P : List PutD} (h : OkF φ w AB AP cp B P) {b : Nat} (hb : ¬ φ b) (x y z : Value) :
    OkF φ (((w.setCell ⟨b, 0, none⟩ x).setCell ⟨b, 1, none⟩ y).setCell ⟨b, 2, none⟩ z) AB AP cp B P :=
  h.kept ((((Kept.refl _ w).set hb x).set hb y).set hb z)
/-- Ahead of a call in a drawn region: what lay at its head. -/
theorem okF_of {φ : Nat → Prop} {w w' : World} {AB AP : Option Addr} {cp : Nat} {B : List (List UInt8)} {P : List PutD} (h : OkF φ w AB AP cp B P) (hb : Below w.heap.size w w') : OkF (fun b => φ b ∧ b < w.heap.size) w' AB AP cp B P := h.low.ext hb
theorem c_writeF (φ : Nat → Prop) (AB : Option Addr) (cb : Nat) (AP : Option Addr) (cp : Nat) (f at_ : Int) (A : Option Addr) (c : Nat) (bs : List UInt8) (w : World) (B : List (List UInt8)) (P : List PutD) (hD : OkF φ w AB AP cp B P) (hlP : P.length ≤ 1000000) (hR : OkB w A c bs) (hf : -9223372036854775808 ≤ f) (hf' : f ≤ 9223372036854775807)
    (E : Int) (P' : List PutD) (F : Int) (hE : writeE B f at_ bs = E) (hP' : writeP P E at_ bs = P') (hF : writeF f E = F) :
    Calls Try.prog 23 #[.agg #[.slice AB B.length cb, .slice AP P.length cp, .int .i64 f], .int .i64 at_, .slice A bs.length c] w fun e w' =>
      (∃ AB' cb' AP' cp', e = .returned (.tuple #[.agg #[.slice AB' B.length cb', .slice AP' P'.length cp', .int .i64 F], .int .i64 E]) ∧ OkF (fun b => φ b ∨ w.heap.size ≤ b) w' AB' AP' cp' B P') ∧ Below w.heap.size w w' := by
  subst hE hP' hF
  refine (write_any φ AB cb AP cp f at_ A c bs w B P hD.1 hD.2.1 hD.2.2.1 hD.2.2.2 hlP hR.1.plain hR.2.2 hf hf').mono ?_
  rintro e w' ⟨⟨v, rfl, hv⟩, hb⟩
  obtain ⟨AB, cb, AP, cp, h1, h2, h3, h4, h5⟩ := hv
  subst h1
  exact ⟨⟨AB, cb, AP, cp, rfl, h4, h5, h2, h3⟩, hb⟩
end Go.Proofs.Ytkfalgdhpojejaa
