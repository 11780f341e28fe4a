/- The bytes of a page, in plain lists. -/
import Derived.Test.YtljfbaakgjmmfaaPage
import Derived.Test.YtljfbaakgjmmfaaWireAll
namespace Go.Proofs.Ytljfbaakgjmmfaa
open Go.RowKit Go.ChangeShapes
set_option linter.unusedVariables false
set_option linter.unusedSimpArgs false
theorem below_W {w a c : World} (h : Below w.heap.size w a) (f : Frm (fun k => ¬ k < w.heap.size) a c) : Below w.heap.size w c := below_frm h f (fun k hk hn => hn hk)
theorem hW_of {w a : World} (h : Below w.heap.size w a) : ∀ k, k < w.heap.size → k < a.heap.size := fun k hk => Nat.lt_of_lt_of_le hk h.size
/-- One key's bytes. -/
def kbytes (vs : List Int) (k : Nat) : List Int := if vs.getD k 0 = 0 then [] else be (k : Int) 1 ++ be (vs.getD k 0) 2
/-- The keys p, p+7, .. : the first n of them. -/
def pvals (vs : List Int) (p n : Nat) : List Int := (List.range n).flatMap fun j => kbytes vs (p + 7 * j)
/-- One client's bytes. -/
def cbytes (cs : List Int) (i : Nat) : List Int := if cs.getD (i * 2) 0 = 0 then [] else be (i : Int) 1 ++ be (cs.getD (i * 2) 0) 4 ++ be (cs.getD (i * 2 + 1) 0) 4
def pclis (cs : List Int) (n : Nat) : List Int := (List.range n).flatMap fun i => cbytes cs i
/-- How many keys lie on a page. -/
def pcount (p : Nat) : Nat := (64 - p + 6) / 7
/-- A page. -/
def pageB (vs cs : List Int) (p : Nat) : List Int := if p = 7 then pclis cs 5 else pvals vs p (pcount p)
theorem pvals_succ (vs : List Int) (p n : Nat) : pvals vs p (n + 1) = pvals vs p n ++ kbytes vs (p + 7 * n) := by
  unfold pvals; rw [List.range_succ, List.flatMap_append]; simp
theorem pclis_succ (cs : List Int) (n : Nat) : pclis cs (n + 1) = pclis cs n ++ cbytes cs n := by
  unfold pclis; rw [List.range_succ, List.flatMap_append]; simp
theorem kbytes_len (vs : List Int) (k : Nat) : (kbytes vs k).length ≤ 3 := by
  unfold kbytes; split
  · simp
  · simp [be_len]
theorem cbytes_len (cs : List Int) (k : Nat) : (cbytes cs k).length ≤ 9 := by
  unfold cbytes; split
  · simp
  · simp [be_len]
theorem pvals_len (vs : List Int) (p n : Nat) : (pvals vs p n).length ≤ 3 * n := by
  induction n with
  | zero => simp [pvals]
  | succ n ih => rw [pvals_succ, List.length_append]; have := kbytes_len vs (p + 7 * n); omega
theorem pclis_len (cs : List Int) (n : Nat) : (pclis cs n).length ≤ 9 * n := by
  induction n with
  | zero => simp [pclis]
  | succ n ih => rw [pclis_succ, List.length_append]; have := cbytes_len cs n; omega
theorem page_len (vs cs : List Int) (p : Nat) : (pageB vs cs p).length ≤ 45 := by
  unfold pageB pcount; split
  · exact pclis_len cs 5
  · have := pvals_len vs p ((64 - p + 6) / 7); omega
end Go.Proofs.Ytljfbaakgjmmfaa
