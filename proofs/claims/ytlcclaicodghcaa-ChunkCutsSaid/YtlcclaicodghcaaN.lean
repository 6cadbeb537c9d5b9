import Derived.IntWalk
namespace Go.Proofs.Ytlcclaicodghcaa

/-- The number that bytes tell, the greatest part first. -/
def valB (l : List UInt8) : Nat := l.foldl (fun n x => n * 256 + x.toNat) 0
/-- A number in w bytes, the greatest part first. -/
def numB (n : Nat) : Nat → List UInt8
  | 0 => []
  | w + 1 => UInt8.ofNat (n / 256 ^ w) :: numB n w
theorem numB_len (n : Nat) : ∀ w, (numB n w).length = w
  | 0 => rfl
  | w + 1 => by rw [numB, List.length_cons, numB_len n w]
theorem numB_get (n : Nat) : ∀ (w i : Nat) (_ : i < w), (numB n w)[i]? = some (UInt8.ofNat (n / 256 ^ (w - 1 - i)))
  | 0, i, h => absurd h (Nat.not_lt_zero _)
  | w + 1, 0, h => by simp [numB]
  | w + 1, i + 1, h => by
    rw [numB, List.getElem?_cons_succ, numB_get n w i (by omega), show w + 1 - 1 - (i + 1) = w - 1 - i by omega]
theorem foldB (l : List UInt8) : ∀ a, l.foldl (fun n x => n * 256 + x.toNat) a = a * 256 ^ l.length + valB l := by
  induction l with
  | nil => intro a; simp [valB]
  | cons x l ih =>
    intro a
    have e : valB (x :: l) = x.toNat * 256 ^ l.length + valB l := by
      show List.foldl _ 0 (x :: l) = _
      rw [List.foldl_cons, ih]; simp
    rw [e, List.foldl_cons, ih, List.length_cons, Nat.pow_succ, Nat.add_mul, Nat.mul_assoc, Nat.mul_comm 256, Nat.add_assoc]
theorem valB_cons (x : UInt8) (l : List UInt8) : valB (x :: l) = x.toNat * 256 ^ l.length + valB l := by
  rw [valB, List.foldl_cons, foldB]; simp
theorem valB_snoc (l : List UInt8) (x : UInt8) : valB (l ++ [x]) = valB l * 256 + x.toNat := by
  simp [valB, List.foldl_append]
theorem valB_lt : ∀ l : List UInt8, valB l < 256 ^ l.length
  | [] => by simp [valB]
  | x :: l => by
    rw [valB_cons, List.length_cons, Nat.pow_succ]
    have h1 := valB_lt l
    have h2 : x.toNat < 256 := x.toNat_lt
    have h3 : x.toNat * 256 ^ l.length ≤ 255 * 256 ^ l.length := Nat.mul_le_mul_right _ (by omega)
    omega
theorem valB_numB (n : Nat) : ∀ w, valB (numB n w) = n % 256 ^ w
  | 0 => by simp [numB, valB, Nat.mod_one]
  | w + 1 => by
    rw [numB, valB_cons, numB_len, valB_numB n w, UInt8.toNat_ofNat', show (256 : Nat) ^ (w + 1) = 256 ^ w * 256 from rfl, show (2 ^ 8 : Nat) = 256 from rfl]
    have : n % (256 ^ w * 256) = 256 ^ w * (n / 256 ^ w % 256) + n % 256 ^ w := by
      rw [Nat.mod_mul, Nat.add_comm]
    rw [this, Nat.mul_comm]
theorem numB_valB : ∀ l : List UInt8, numB (valB l) l.length = l := by
  have key : ∀ (l : List UInt8) (n : Nat), n % 256 ^ l.length = valB l → numB n l.length = l := by
    intro l
    induction l with
    | nil => intro n _; rfl
    | cons x l ih =>
      intro n h
      rw [List.length_cons, Nat.pow_succ, Nat.mod_mul, valB_cons] at h
      have h1 := valB_lt l
      have h2 : x.toNat < 256 := x.toNat_lt
      have h3 : n % 256 ^ l.length < 256 ^ l.length := Nat.mod_lt _ (Nat.pow_pos (by omega))
      have h4 : n / 256 ^ l.length % 256 = x.toNat := by
        have e1 : (n % 256 ^ l.length + 256 ^ l.length * (n / 256 ^ l.length % 256)) / 256 ^ l.length = (x.toNat * 256 ^ l.length + valB l) / 256 ^ l.length := by rw [h]
        rw [Nat.add_comm, Nat.mul_comm, Nat.mul_add_div' h3, Nat.mul_add_div' h1] at e1
        exact e1
      have h5 : n % 256 ^ l.length = valB l := by
        rw [h4, Nat.mul_comm] at h; omega
      rw [List.length_cons, numB, ih n h5]
      congr 1
      apply UInt8.toNat_inj.1
      rw [UInt8.toNat_ofNat']
      exact h4
  intro l
  exact key l _ (Nat.mod_eq_of_lt (valB_lt l))
where
  Nat.mul_add_div' {a b c : Nat} (h : c < b) : (a * b + c) / b = a := by
    rw [Nat.mul_comm, Nat.mul_add_div (by omega), Nat.div_eq_of_lt h]; omega
end Go.Proofs.Ytlcclaicodghcaa
