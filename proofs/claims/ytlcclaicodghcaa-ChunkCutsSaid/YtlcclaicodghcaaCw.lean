import Derived.Test.YtlcclaicodghcaaCv
namespace Go.Proofs.Ytlcclaicodghcaa
open Go.RowKit

/-- Read, its answer by names. -/
def ReadAns (E v r X : Int) (S N : List UInt8) (T : List SectD) (w : World) (e : Ending) (w' : World) : Prop :=
  (∃ AS cS AN cN AT cT, e = .returned (.tuple #[.agg #[.int .i64 v, .slice AS S.length cS, .int .i64 r, .slice AN N.length cN, .slice AT T.length cT], .int .i64 X, .int .i64 E]) ∧ OkH w' AS cS S AN cN N AT T) ∧ Below w.heap.size w w'
theorem c_readN (A : Option Addr) (c : Nat) (b : List UInt8) (w : World) (hok : OkB w A c b) (hl : b.length ≤ 1000000) (n : Nat) (hn : b.length = n) (E v r X : Int) (S N : List UInt8) (T : List SectD)
    (hE : readE b = E) (hv : readV b = v) (hr : readR b = r) (hX : readX b = X) (hS : readS b = S) (hN : readN b = N) (hT : readT b = T) : Calls Try.prog 50 #[.slice A n c] w (ReadAns E v r X S N T w) := by
  subst hE hv hr hX hS hN hT hn
  exact c_read A c b w hok hl
theorem c_rreadN (A : Option Addr) (c : Nat) (b : List UInt8) (w : World) (hok : OkB w A c b) (hl : b.length ≤ 1000000) (n : Nat) (hn : b.length = n) (E v r X : Int) (S N : List UInt8) (T : List SectD)
    (hE : readE b = E) (hv : readV b = v) (hr : readR b = r) (hX : readX b = X) (hS : readS b = S) (hN : readN b = N) (hT : readT b = T) : Calls Try.prog 51 #[.slice A n c] w (ReadAns E v r X S N T w) := by
  subst hE hv hr hX hS hN hT hn
  exact c_rread A c b w hok hl
theorem sameH_refl (v : Int) (S : List UInt8) (r : Int) (N : List UInt8) (T : List SectD) : sameH v S r N T v S r N T = true := by unfold sameH; simp
/-- Two values of a struct in a law's variables: the box and what it holds. -/
theorem box_new {w : World} (cs : Array Value) (t : TypeId) : (w.alloc (.cells cs t)).heap[w.heap.size]? = some (.cells cs t (0, 0)) := blk_new w cs t
theorem few_len {S N : List UInt8} {T : List SectD} {most : Int} (h : fewH S N T most = true) : S.length ≤ 40 ∧ N.length ≤ 40 ∧ T.length ≤ 70 := ⟨(fewH_iff.1 h).1, (fewH_iff.1 h).2.1, (fewH_iff.1 h).2.2.1⟩
theorem writeL_len {v r : Int} {S N : List UInt8} {T : List SectD} : (writeL v S r N T).length ≤ 100000 := by
  unfold writeL
  split
  · rename_i h
    obtain ⟨r1, r2, r3, r4, r5, r6, r7, r8⟩ := rightH_iff.1 h
    have hs := sects_le (T := T) (fun s hs => (okS_iff.1 (right_all h s hs)).1)
    have h1 := numL_le7 v 1; have h2 := numL_le7 r 4; have h3 := numL_le7 T.length 2
    unfold headB foreB
    simp only [List.length_append, List.length_cons, List.length_nil]
    omega
  · simp
end Go.Proofs.Ytlcclaicodghcaa
