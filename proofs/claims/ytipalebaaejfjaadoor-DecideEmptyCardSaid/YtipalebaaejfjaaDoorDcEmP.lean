/- Votes without a prepared entry, plain. -/
import Derived.Test.YtipalebaaejfjaaDoorDcKnown
namespace Go.Proofs.YtipalebaaejfjaaDoor
open Go.RowKit Go.ChangeShapes
set_option linter.unusedVariables false
set_option linter.unusedSimpArgs false
set_option maxRecDepth 100000
/-- The marks from a low on: 4 apart, up to 8. -/
def mL (lo : Int) : Nat → List Mk
  | 0 => []
  | m + 1 => mL lo m ++ [(lo + 4 * (m : Int), lo + 4 * (m : Int) + 1)]
def mF (lo : Int) : List Mk := if lo = 0 then [(0, 1), (4, 5), (8, 9)] else if lo = 4 then [(4, 5), (8, 9)] else [(8, 9)]
theorem mL_full {lo : Int} {m : Nat} (h : lo = 0 ∨ lo = 4 ∨ lo = 8) (hm : lo + 4 * (m : Int) = 12) : mL lo m = mF lo := by
  rcases h with rfl | rfl | rfl
  · obtain rfl : m = 3 := by omega
    rfl
  · obtain rfl : m = 2 := by omega
    rfl
  · obtain rfl : m = 1 := by omega
    rfl
theorem mL_len (lo : Int) (m : Nat) : (mL lo m).length = m := by
  induction m with
  | zero => rfl
  | succ m ih => show (_ ++ [_]).length = _; rw [List.length_append, ih]; rfl
/-- A vote of its replica, without entries. -/
structure EmV (view : Int) (lo : Int) (i : Nat) (v : Vm) : Prop where
  hf : v.f = i
  he : v.e = 1
  hv : v.v = view
  hl : v.l = lo
  hms : v.ms = mF lo
  hp : v.p = []
  hq : v.q = []
def Lw (n : Int) : Prop := n = 0 ∨ n = 4 ∨ n = 8
theorem em_vm {view lo : Int} {i : Nat} {v : Vm} (h : EmV view lo i v) : ∃ ma mc pa pc qa qc, v = ⟨i, 1, view, lo, ma, mc, mF lo, pa, pc, [], qa, qc, []⟩ := by
  obtain ⟨f, e, vv, l, ma, mc, ms, pa, pc, p, qa, qc, q⟩ := v
  obtain ⟨h1, h2, h3, h4, h5, h6, h7⟩ := h
  dsimp only at h1 h2 h3 h4 h5 h6 h7
  subst h1; subst h2; subst h3; subst h4; subst h5; subst h6; subst h7
  exact ⟨_, _, _, _, _, _, rfl⟩
theorem em_vote {view lo : Int} {i : Nat} {v : Vm} (h : EmV view lo i v) (hi : i < 4) (hv : 1 ≤ view ∧ view ≤ 1048576) (hl : Lw lo) : voteB v = true := by
  obtain ⟨ma, mc, pa, pc, qa, qc, rfl⟩ := em_vm h
  have h1 : mksB (mF lo) = true := by rcases hl with rfl | rfl | rfl <;> rfl
  have h2 : (mF lo).length ≤ 40 := by rcases hl with rfl | rfl | rfl <;> decide
  have h3 : lo ≤ 1073741824 := by rcases hl with rfl | rfl | rfl <;> decide
  have h4 : ((i : Nat) : Int) < 4 := by omega
  unfold voteB
  rw [h1, decide_eq_true h4, decide_eq_true (show (1 : Int) ≤ 1 ∧ (1 : Int) ≤ 200 by decide), decide_eq_true hv.1, decide_eq_true hv.2, decide_eq_true h3, decide_eq_true h2]
  rfl
theorem em_emp {view lo : Int} {i : Nat} {v : Vm} (h : EmV view lo i v) (hl : Lw lo) (s : Int) (hs : 8 < s) : empB s v = true := by
  obtain ⟨ma, mc, pa, pc, qa, qc, rfl⟩ := em_vm h
  have h1 : lo < s := by rcases hl with rfl | rfl | rfl <;> omega
  simp [empB, h1]
/-- Votes, one of each replica of a list. -/
def EmL (view : Int) (lo : Nat → Int) : List Nat → List Vm → Prop
  | [], [] => True
  | i :: is, v :: l => EmV view (lo i) i v ∧ EmL view lo is l
  | _, _ => False
theorem EmL.more {view : Int} {lo : Nat → Int} {j : Nat} {r : Vm} (hr : EmV view (lo j) j r) : ∀ {is : List Nat} {l : List Vm}, EmL view lo is l → EmL view lo (is ++ [j]) (l ++ [r])
  | [], [], _ => ⟨hr, trivial⟩
  | i :: is, v :: l, h => ⟨h.1, EmL.more hr h.2⟩
theorem EmL.len {view : Int} {lo : Nat → Int} : ∀ {is : List Nat} {l : List Vm}, EmL view lo is l → l.length = is.length
  | [], [], _ => rfl
  | i :: is, v :: l, h => by rw [List.length_cons, List.length_cons, EmL.len h.2]
/-- All replicas below j but o. -/
def ids (o : Int) : Nat → List Nat
  | 0 => []
  | j + 1 => if o = (j : Int) then ids o j else ids o j ++ [j]
theorem ids_len (o : Int) (j : Nat) : (ids o j).length ≤ j := by
  induction j with
  | zero => exact Nat.le_refl _
  | succ j ih => simp only [ids]; split
                 · omega
                 · rw [List.length_append]; simp; exact ih
structure EmR (view : Int) (l : List Vm) : Prop where
  vts : vtsB view l = true
  base : baseR l = ⟨true, 8, 9⟩
  pick : ∀ s, pickR l s = ⟨false, 0, en0⟩
  emp : ∀ s, 8 < s → emptyR l s = true
  none : ∀ v ∈ l, v.p = [] ∧ v.q = [] ∧ ∀ m ∈ v.ms, 0 ≤ m.1
theorem em_none {view lo : Int} {i : Nat} {v : Vm} (h : EmV view lo i v) (hl : Lw lo) : v.p = [] ∧ v.q = [] ∧ ∀ m ∈ v.ms, 0 ≤ m.1 :=
  ⟨h.hp, h.hq, fun m hm => by
    rw [h.hms] at hm
    rcases hl with rfl | rfl | rfl <;> simp [mF] at hm <;> rcases hm with rfl | rfl | rfl <;> decide⟩
theorem em3 {view : Int} {lo : Nat → Int} {i j k : Nat} {a b c : Vm} (hij : i < j) (hjk : j < k) (hk : k < 4) (hl : ∀ i, Lw (lo i)) (hv : 1 ≤ view ∧ view ≤ 1048576) (ha : EmV view (lo i) i a) (hb : EmV view (lo j) j b) (hc : EmV view (lo k) k c) : EmR view [a, b, c] := by
  refine ⟨?_, ?_, fun s => ?_, fun s hs => ?_, ?_⟩
  · unfold vtsB
    simp only [List.all_cons, List.all_nil, em_vote ha (by omega) hv (hl _), em_vote hb (by omega) hv (hl _), em_vote hc (by omega) hv (hl _), ha.hv, hb.hv, hc.hv, ascB, ha.hf, hb.hf, hc.hf]
    simp; omega
  · obtain ⟨_, _, _, _, _, _, rfl⟩ := em_vm ha
    obtain ⟨_, _, _, _, _, _, rfl⟩ := em_vm hb
    obtain ⟨_, _, _, _, _, _, rfl⟩ := em_vm hc
    rcases hl i with e | e | e <;> rcases hl j with f | f | f <;> rcases hl k with g | g | g <;> rw [e, f, g] <;> kernel_rfl
  · simp [pickR, pickV, ha.hp, hb.hp, hc.hp]
  · simp [emptyR, cnt, em_emp ha (hl _) s hs, em_emp hb (hl _) s hs, em_emp hc (hl _) s hs]
  · intro v hm
    simp at hm
    rcases hm with rfl | rfl | rfl
    · exact em_none ha (hl _)
    · exact em_none hb (hl _)
    · exact em_none hc (hl _)
theorem em4 {view : Int} {lo : Nat → Int} {a b c d : Vm} (hl : ∀ i, Lw (lo i)) (hv : 1 ≤ view ∧ view ≤ 1048576) (ha : EmV view (lo 0) 0 a) (hb : EmV view (lo 1) 1 b) (hc : EmV view (lo 2) 2 c) (hd : EmV view (lo 3) 3 d) : EmR view [a, b, c, d] := by
  refine ⟨?_, ?_, fun s => ?_, fun s hs => ?_, ?_⟩
  · unfold vtsB
    simp only [List.all_cons, List.all_nil, em_vote ha (by omega) hv (hl _), em_vote hb (by omega) hv (hl _), em_vote hc (by omega) hv (hl _), em_vote hd (by omega) hv (hl _), ha.hv, hb.hv, hc.hv, hd.hv, ascB, ha.hf, hb.hf, hc.hf, hd.hf]
    simp
  · obtain ⟨_, _, _, _, _, _, rfl⟩ := em_vm ha
    obtain ⟨_, _, _, _, _, _, rfl⟩ := em_vm hb
    obtain ⟨_, _, _, _, _, _, rfl⟩ := em_vm hc
    obtain ⟨_, _, _, _, _, _, rfl⟩ := em_vm hd
    rcases hl 0 with e | e | e <;> rcases hl 1 with f | f | f <;> rcases hl 2 with g | g | g <;> rcases hl 3 with h | h | h <;> rw [e, f, g, h] <;> kernel_rfl
  · simp [pickR, pickV, ha.hp, hb.hp, hc.hp, hd.hp]
  · simp [emptyR, cnt, em_emp ha (hl _) s hs, em_emp hb (hl _) s hs, em_emp hc (hl _) s hs, em_emp hd (hl _) s hs]
  · intro v hm
    simp at hm
    rcases hm with rfl | rfl | rfl | rfl
    · exact em_none ha (hl _)
    · exact em_none hb (hl _)
    · exact em_none hc (hl _)
    · exact em_none hd (hl _)
theorem EmL.three {view : Int} {lo : Nat → Int} {i j k : Nat} : ∀ {l : List Vm}, EmL view lo [i, j, k] l → ∃ a b c, l = [a, b, c] ∧ EmV view (lo i) i a ∧ EmV view (lo j) j b ∧ EmV view (lo k) k c
  | [a, b, c], h => ⟨a, b, c, rfl, h.1, h.2.1, h.2.2.1⟩
  | [], h => h.elim
  | [_], h => h.2.elim
  | [_, _], h => h.2.2.elim
  | _ :: _ :: _ :: _ :: _, h => h.2.2.2.elim
theorem EmL.four {view : Int} {lo : Nat → Int} {i j k m : Nat} : ∀ {l : List Vm}, EmL view lo [i, j, k, m] l → ∃ a b c d, l = [a, b, c, d] ∧ EmV view (lo i) i a ∧ EmV view (lo j) j b ∧ EmV view (lo k) k c ∧ EmV view (lo m) m d
  | [a, b, c, d], h => ⟨a, b, c, d, rfl, h.1, h.2.1, h.2.2.1, h.2.2.2.1⟩
  | [], h => h.elim
  | [_], h => h.2.elim
  | [_, _], h => h.2.2.elim
  | [_, _, _], h => h.2.2.2.elim
  | _ :: _ :: _ :: _ :: _ :: _, h => h.2.2.2.2.elim
theorem em_end {view o : Int} {lo : Nat → Int} {l : List Vm} (ho : 0 ≤ o ∧ o ≤ 4) (hl : ∀ i, Lw (lo i)) (hv : 1 ≤ view ∧ view ≤ 1048576) (h : EmL view lo (ids o 4) l) : EmR view l := by
  rcases (show o = 0 ∨ o = 1 ∨ o = 2 ∨ o = 3 ∨ o = 4 by omega) with rfl | rfl | rfl | rfl | rfl
  · rw [show ids 0 4 = [1, 2, 3] by decide] at h
    obtain ⟨a, b, c, rfl, ha, hb, hc⟩ := h.three
    exact em3 (by decide) (by decide) (by decide) hl hv ha hb hc
  · rw [show ids 1 4 = [0, 2, 3] by decide] at h
    obtain ⟨a, b, c, rfl, ha, hb, hc⟩ := h.three
    exact em3 (by decide) (by decide) (by decide) hl hv ha hb hc
  · rw [show ids 2 4 = [0, 1, 3] by decide] at h
    obtain ⟨a, b, c, rfl, ha, hb, hc⟩ := h.three
    exact em3 (by decide) (by decide) (by decide) hl hv ha hb hc
  · rw [show ids 3 4 = [0, 1, 2] by decide] at h
    obtain ⟨a, b, c, rfl, ha, hb, hc⟩ := h.three
    exact em3 (by decide) (by decide) (by decide) hl hv ha hb hc
  · rw [show ids 4 4 = [0, 1, 2, 3] by decide] at h
    obtain ⟨a, b, c, d, rfl, ha, hb, hc, hd⟩ := h.four
    exact em4 hl hv ha hb hc hd
/-- A view that begins empty. -/
theorem em_choose {w : World} {a : Option Addr} {cap L : Nat} {l : List Vm} {view : Int} (h : EmR view l) (hr : IsRow 7 vmC w a cap l) (hok : ∀ x ∈ l, VmOk w x) (hL : l.length = L) :
    Calls Tryd.prog 15 #[.int .u32 view, .slice a L cap] w fun e w' => (∃ g c, e = .returned (.tuple #[.agg #[.int .u32 8, .int .u64 9], .slice (some ⟨g, 0, Option.none⟩) 0 c, .int .i64 0]) ∧ IsRow 5 rqC w' (some ⟨g, 0, Option.none⟩) c []) ∧ Frm (fun _ => False) w w' :=
  Choose_ok (l := l) ⟨hr, hok, fun x hx e he => by rw [(h.none x hx).1] at he; simp at he, fun x hx e he => by rw [(h.none x hx).2.1] at he; simp at he, fun x hx => (h.none x hx).2.2, fun x hx => by rw [(h.none x hx).2.1]; simp⟩
    hL view h.vts h.base (fun i => 8 + (i : Int)) (fun i h1 h2 => by omega) (chG_of fun i _ => by rw [h.emp _ (by show (8 : Int) < 8 + ((i + 1 : Nat) : Int); omega), Bool.or_true]) (O := []) (by simp [chN, h.pick]) rfl
end Go.Proofs.YtipalebaaejfjaaDoor
