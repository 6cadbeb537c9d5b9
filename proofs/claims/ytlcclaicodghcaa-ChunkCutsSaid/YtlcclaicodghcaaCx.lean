import Derived.Test.YtlcclaicodghcaaCw
namespace Go.Proofs.Ytlcclaicodghcaa
open Go.RowKit

/-- What stands while a law of one head runs. -/
def OneH (w : World) (v r : Int) (AS : Option Addr) (cS : Nat) (S : List UInt8) (AN : Option Addr) (cN : Nat) (N : List UInt8) (AT : Option Addr) (cT : Nat) (T : List SectD) (x : World) : Prop := Below w.heap.size w x ∧ x.heap[w.heap.size]? = some (.cells #[.int .i64 v, .slice AS S.length cS, .int .i64 r, .slice AN N.length cN, .slice AT T.length cT] 75 (0, 0)) ∧ OkH x AS cS S AN cN N AT T
theorem OneH.new {w : World} (v r : Int) (AS : Option Addr) (cS : Nat) (S : List UInt8) (AN : Option Addr) (cN : Nat) (N : List UInt8) (AT : Option Addr) (cT : Nat) (T : List SectD) (h : OkH w AS cS S AN cN N AT T) : OneH w v r AS cS S AN cN N AT cT T (w.alloc (.cells #[.int .i64 v, .slice AS S.length cS, .int .i64 r, .slice AN N.length cN, .slice AT T.length cT] 75)) := by
  have g := bl_alloc (Below.refl w.heap.size w) (.cells #[.int .i64 v, .slice AS S.length cS, .int .i64 r, .slice AN N.length cN, .slice AT T.length cT] 75)
  exact ⟨g, blk_new w _ 75, h.ext g⟩
theorem OneH.ext {w : World} {v r : Int} {AS : Option Addr} {cS : Nat} {S : List UInt8} {AN : Option Addr} {cN : Nat} {N : List UInt8} {AT : Option Addr} {cT : Nat} {T : List SectD} {x y : World} (h : OneH w v r AS cS S AN cN N AT cT T x) (hb : Below x.heap.size x y) : OneH w v r AS cS S AN cN N AT cT T y :=
  ⟨bl_then h.1 hb, blk_ext hb (lt_blk h.2.1) h.2.1, h.2.2.ext hb⟩
theorem OneH.ha {w : World} {v r : Int} {AS : Option Addr} {cS : Nat} {S : List UInt8} {AN : Option Addr} {cN : Nat} {N : List UInt8} {AT : Option Addr} {cT : Nat} {T : List SectD} {x : World} (h : OneH w v r AS cS S AN cN N AT cT T x) : OkH x AS cS S AN cN N AT T := h.2.2
/-- What stands while a law of two heads runs. -/
def TwoH (w : World) (v r : Int) (AS : Option Addr) (cS : Nat) (S : List UInt8) (AN : Option Addr) (cN : Nat) (N : List UInt8) (AT : Option Addr) (cT : Nat) (T : List SectD) (v1 r1 : Int) (AS1 : Option Addr) (cS1 : Nat) (S1 : List UInt8) (AN1 : Option Addr) (cN1 : Nat) (N1 : List UInt8) (AT1 : Option Addr) (cT1 : Nat) (T1 : List SectD) (x : World) : Prop := Below w.heap.size w x ∧ x.heap[w.heap.size]? = some (.cells #[.int .i64 v, .slice AS S.length cS, .int .i64 r, .slice AN N.length cN, .slice AT T.length cT] 75 (0, 0)) ∧ x.heap[w.heap.size + 1]? = some (.cells #[.int .i64 v1, .slice AS1 S1.length cS1, .int .i64 r1, .slice AN1 N1.length cN1, .slice AT1 T1.length cT1] 75 (0, 0)) ∧ OkH x AS cS S AN cN N AT T ∧ OkH x AS1 cS1 S1 AN1 cN1 N1 AT1 T1
theorem TwoH.new {w : World} (v r : Int) (AS : Option Addr) (cS : Nat) (S : List UInt8) (AN : Option Addr) (cN : Nat) (N : List UInt8) (AT : Option Addr) (cT : Nat) (T : List SectD) (v1 r1 : Int) (AS1 : Option Addr) (cS1 : Nat) (S1 : List UInt8) (AN1 : Option Addr) (cN1 : Nat) (N1 : List UInt8) (AT1 : Option Addr) (cT1 : Nat) (T1 : List SectD) (h : OkH w AS cS S AN cN N AT T) (h1 : OkH w AS1 cS1 S1 AN1 cN1 N1 AT1 T1) : TwoH w v r AS cS S AN cN N AT cT T v1 r1 AS1 cS1 S1 AN1 cN1 N1 AT1 cT1 T1 ((w.alloc (.cells #[.int .i64 v, .slice AS S.length cS, .int .i64 r, .slice AN N.length cN, .slice AT T.length cT] 75)).alloc (.cells #[.int .i64 v1, .slice AS1 S1.length cS1, .int .i64 r1, .slice AN1 N1.length cN1, .slice AT1 T1.length cT1] 75)) := by
  have g := bl_alloc (Below.refl w.heap.size w) (.cells #[.int .i64 v, .slice AS S.length cS, .int .i64 r, .slice AN N.length cN, .slice AT T.length cT] 75)
  have g1 := bl_alloc (Below.refl _ (w.alloc (.cells #[.int .i64 v, .slice AS S.length cS, .int .i64 r, .slice AN N.length cN, .slice AT T.length cT] 75))) (.cells #[.int .i64 v1, .slice AS1 S1.length cS1, .int .i64 r1, .slice AN1 N1.length cN1, .slice AT1 T1.length cT1] 75)
  have e := blk_new w #[.int .i64 v, .slice AS S.length cS, .int .i64 r, .slice AN N.length cN, .slice AT T.length cT] 75
  have e1 := blk_new (w.alloc (.cells #[.int .i64 v, .slice AS S.length cS, .int .i64 r, .slice AN N.length cN, .slice AT T.length cT] 75)) #[.int .i64 v1, .slice AS1 S1.length cS1, .int .i64 r1, .slice AN1 N1.length cN1, .slice AT1 T1.length cT1] 75
  rw [size_al] at e1
  exact ⟨bl_then g g1, blk_ext g1 (lt_blk e) e, e1, (h.ext g).ext g1, (h1.ext g).ext g1⟩
theorem TwoH.ext {w : World} {v r : Int} {AS : Option Addr} {cS : Nat} {S : List UInt8} {AN : Option Addr} {cN : Nat} {N : List UInt8} {AT : Option Addr} {cT : Nat} {T : List SectD} {v1 r1 : Int} {AS1 : Option Addr} {cS1 : Nat} {S1 : List UInt8} {AN1 : Option Addr} {cN1 : Nat} {N1 : List UInt8} {AT1 : Option Addr} {cT1 : Nat} {T1 : List SectD} {x y : World} (h : TwoH w v r AS cS S AN cN N AT cT T v1 r1 AS1 cS1 S1 AN1 cN1 N1 AT1 cT1 T1 x) (hb : Below x.heap.size x y) : TwoH w v r AS cS S AN cN N AT cT T v1 r1 AS1 cS1 S1 AN1 cN1 N1 AT1 cT1 T1 y :=
  ⟨bl_then h.1 hb, blk_ext hb (lt_blk h.2.1) h.2.1, blk_ext hb (lt_blk h.2.2.1) h.2.2.1, h.2.2.2.1.ext hb, h.2.2.2.2.ext hb⟩
theorem TwoH.ha {w : World} {v r : Int} {AS : Option Addr} {cS : Nat} {S : List UInt8} {AN : Option Addr} {cN : Nat} {N : List UInt8} {AT : Option Addr} {cT : Nat} {T : List SectD} {v1 r1 : Int} {AS1 : Option Addr} {cS1 : Nat} {S1 : List UInt8} {AN1 : Option Addr} {cN1 : Nat} {N1 : List UInt8} {AT1 : Option Addr} {cT1 : Nat} {T1 : List SectD} {x : World} (h : TwoH w v r AS cS S AN cN N AT cT T v1 r1 AS1 cS1 S1 AN1 cN1 N1 AT1 cT1 T1 x) : OkH x AS cS S AN cN N AT T := h.2.2.2.1
theorem TwoH.hb {w : World} {v r : Int} {AS : Option Addr} {cS : Nat} {S : List UInt8} {AN : Option Addr} {cN : Nat} {N : List UInt8} {AT : Option Addr} {cT : Nat} {T : List SectD} {v1 r1 : Int} {AS1 : Option Addr} {cS1 : Nat} {S1 : List UInt8} {AN1 : Option Addr} {cN1 : Nat} {N1 : List UInt8} {AT1 : Option Addr} {cT1 : Nat} {T1 : List SectD} {x : World} (h : TwoH w v r AS cS S AN cN N AT cT T v1 r1 AS1 cS1 S1 AN1 cN1 N1 AT1 cT1 T1 x) : OkH x AS1 cS1 S1 AN1 cN1 N1 AT1 T1 := h.2.2.2.2
theorem ok_ad {w : World} {A : Option Addr} {c : Nat} {a : List UInt8} (h : OkB w A c a) (h0 : 0 < a.length) : ∃ ad, A = some ad := by
  obtain ⟨b, off, h1, _⟩ := h.some_ h0
  exact ⟨_, h1⟩
theorem c_sameN (A : Option Addr) (c : Nat) (x : List UInt8) (A' : Option Addr) (c' : Nat) (y : List UInt8) (w : World) (n m : Nat) (hn : x.length = n) (hm : y.length = m) (hx : OkB w A c x) (hy : OkB w A' c' y) (b : Bool) (hb : (x == y) = b) :
    Calls Try.prog 24 #[.slice A n c, .slice A' m c'] w fun e w' => e = .returned (.bool b) ∧ w = w' := by
  subst hn hm; exact c_same A c x A' c' y w hx hy b hb
theorem c_splitN (A : Option Addr) (c : Nat) (b : List UInt8) (w : World) (k : Nat) (hok : OkB w A c b) (hl : b.length ≤ 1000000) (hk : (splitB b).length = k) :
    Calls Try.prog 58 #[.slice A b.length c] w fun e w' => (∃ A' c', e = .returned (.slice A' k c') ∧ RBB w' A' (splitB b)) ∧ Below w.heap.size w w' := by
  subst hk; exact split_any A c b w hok hl
theorem c_rsplitN (A : Option Addr) (c : Nat) (b : List UInt8) (w : World) (k : Nat) (hok : OkB w A c b) (hl : b.length ≤ 1000000) (hk : (splitB b).length = k) :
    Calls Try.prog 59 #[.slice A b.length c] w fun e w' => (∃ A' c', e = .returned (.slice A' k c') ∧ RBB w' A' (splitB b)) ∧ Below w.heap.size w w' := by
  subst hk; exact rsplit_any A c b w hok hl
theorem writeL_right {v r : Int} {S N : List UInt8} {T : List SectD} (h : rightH v S r N T = true) : writeE v S r N T = 0 ∧ writeL v S r N T = headB v S r N T ∧ 38 ≤ (writeL v S r N T).length := by
  have e : writeL v S r N T = headB v S r N T := if_pos h
  exact ⟨if_pos h, e, by rw [e]; exact head_len h⟩
theorem writes_same {v r : Int} {S N : List UInt8} {T : List SectD} {v' r' : Int} {S' N' : List UInt8} {T' : List SectD} (h : rightH v S r N T = true) (h' : rightH v' S' r' N' T' = true) {n : Nat} (hn : min (writeL v S r N T).length (writeL v' S' r' N' T').length = n) :
    ((writeL v S r N T).take n == (writeL v' S' r' N' T').take n) = sameH v S r N T v' S' r' N' T' := by
  rw [(writeL_right h).2.1, (writeL_right h').2.1] at hn ⊢
  exact heads_same h h' hn
end Go.Proofs.Ytlcclaicodghcaa
