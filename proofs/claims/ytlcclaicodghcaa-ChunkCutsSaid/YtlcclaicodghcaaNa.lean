import Derived.Test.YtlcclaicodghcaaN
namespace Go.Proofs.Ytlcclaicodghcaa

/-! ### What the functions answer -/
def okN (n w : Int) : Prop := (1 ≤ w ∧ w ≤ 7) ∧ 0 ≤ n ∧ n < ((256 ^ w.toNat : Nat) : Int)
instance (n w : Int) : Decidable (okN n w) := by unfold okN; exact inferInstance
def numE (n w : Int) : Int := if okN n w then 0 else 1
def numL (n w : Int) : List UInt8 := if okN n w then numB n.toNat w.toNat else []

def tnE (b : List UInt8) (at_ w : Int) : Int :=
  if (1 ≤ w ∧ w ≤ 7) ∧ 0 ≤ at_ ∧ at_ ≤ b.length then (if (b.length : Int) - at_ < w then 3 else 0) else 1
def tnN (b : List UInt8) (at_ w : Int) : Int := if tnE b at_ w = 0 then (valB ((b.drop at_.toNat).take w.toNat) : Int) else 0
def tnX (b : List UInt8) (at_ w : Int) : Int := if tnE b at_ w = 0 then at_ + w else 0

def lenE (n : Int) : Int := if 0 ≤ n ∧ n ≤ 1073741823 then 0 else 1
def lenW (n : Int) : Nat := if n < 64 then 1 else if n < 16384 then 2 else 4
def lenV (n : Int) : Int := if n < 64 then n else if n < 16384 then 16384 + n else 2147483648 + n
def lenL (n : Int) : List UInt8 := if lenE n = 0 then numB (lenV n).toNat (lenW n) else []

/-- How many bytes the length that begins at a place takes, by its first byte. -/
def tlW (f : Int) : Int := if f < 64 then 1 else if f < 128 then 2 else 4
def tlS (f : Int) : Int := if f < 64 then 0 else if f < 128 then 16384 else 2147483648
def tlB (b : List UInt8) (at_ : Int) : Int := ((b.getD at_.toNat 0).toNat : Int)
def tlE (b : List UInt8) (at_ : Int) : Int :=
  if 0 ≤ at_ ∧ at_ ≤ b.length then
    if at_ = b.length then 3 else
    if 192 ≤ tlB b at_ then 2 else
    if (b.length : Int) - at_ < tlW (tlB b at_) then 3 else
    if (lenW (tnN b at_ (tlW (tlB b at_)) - tlS (tlB b at_)) : Int) < tlW (tlB b at_) then 2 else 0
  else 1
def tlN (b : List UInt8) (at_ : Int) : Int := if tlE b at_ = 0 then tnN b at_ (tlW (tlB b at_)) - tlS (tlB b at_) else 0
def tlX (b : List UInt8) (at_ : Int) : Int := if tlE b at_ = 0 then at_ + tlW (tlB b at_) else 0

def rowE (x : List UInt8) : Int := lenE x.length
def rowL (x : List UInt8) : List UInt8 := if rowE x = 0 then lenL x.length ++ x else []

def trE (b : List UInt8) (at_ most : Int) : Int :=
  if tlE b at_ = 0 then (if most < tlN b at_ then 4 else if (b.length : Int) - tlX b at_ < tlN b at_ then 3 else 0) else tlE b at_
def trL (b : List UInt8) (at_ most : Int) : List UInt8 := if trE b at_ most = 0 then (b.drop (tlX b at_).toNat).take (tlN b at_).toNat else []
def trX (b : List UInt8) (at_ most : Int) : Int := if trE b at_ most = 0 then tlX b at_ + tlN b at_ else 0

def optL (is : Bool) (x : List UInt8) : List UInt8 := if is then 1 :: x else [0]
def toE (b : List UInt8) (at_ : Int) : Int := if 0 ≤ at_ ∧ at_ ≤ b.length then (if at_ = b.length then 3 else if 1 < tlB b at_ then 2 else 0) else 1
def toV (b : List UInt8) (at_ : Int) : Bool := decide (toE b at_ = 0) && decide (tlB b at_ = 1)
def toX (b : List UInt8) (at_ : Int) : Int := if toE b at_ = 0 then at_ + 1 else 0

/-- A figure's sign. -/
def fig (n : Nat) : UInt8 := if n < 10 then UInt8.ofNat (48 + n) else UInt8.ofNat (87 + n)
def txt (x : List UInt8) : List UInt8 := x.flatMap fun c => [fig (c.toNat / 16), fig (c.toNat % 16)]
/-- What a sign is worth. -/
def worthB (c : UInt8) : Int := if 48 ≤ c.toNat ∧ c.toNat ≤ 57 then (c.toNat : Int) - 48 else if 97 ≤ c.toNat ∧ c.toNat ≤ 102 then (c.toNat : Int) - 87 else -1
def goodB (s : List UInt8) : Bool := s.all fun c => decide (0 ≤ worthB c)
/-- The bytes of signs, two by two. -/
def pairB : List UInt8 → List UInt8
  | a :: b :: l => UInt8.ofNat ((worthB a).toNat * 16 + (worthB b).toNat) :: pairB l
  | _ => []
def byE (s : List UInt8) : Int := if goodB s = true ∧ s.length % 2 = 0 then 0 else 2
def byL (s : List UInt8) : List UInt8 := if byE s = 0 then pairB s else []
end Go.Proofs.Ytlcclaicodghcaa
