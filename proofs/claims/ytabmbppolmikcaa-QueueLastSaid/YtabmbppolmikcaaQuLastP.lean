/- QueueLast, plain: the youngest of each client. -/
import Derived.Test.YtabmbppolmikcaaQuDone
namespace Go.Proofs.Ytabmbppolmikcaa
open Go.RowKit Go.ChangeShapes
set_option linter.unusedVariables false
set_option linter.unusedSimpArgs false
set_option maxRecDepth 100000
/-- All are puts of one kind. -/
def Shp (L : List Qe) : Prop := ∀ e ∈ L, e.1 = ⟨e.1.c, e.1.t, 1, 1, 2⟩
def topV (L : List Qe) (c : Int) : Int := (ofR L c).t
def topC (L : List Qe) : List Value := [.int .u32 (topV L 0), .int .u32 (topV L 1), .int .u32 (topV L 2), .int .u32 (topV L 3), .int .u32 (topV L 4)]
def ordC (L : List Qe) : List Int := L.map (·.1.c)
theorem putB_top {L : List Qe} {n : Nat} (h : QI L n) {c ts : Int} (hc : 1 ≤ c ∧ c ≤ 4) (ht : 1 ≤ ts) : putB L ⟨c, ts, 1, 1, 2⟩ = decide (topV L c < ts) := by
  unfold putB topV
  dsimp only
  rw [real1 hc (by omega) (by decide), Bool.true_and]
  cases hb : ofB L c
  · rw [(of_none (of_false hb)).2, Bool.false_and, Bool.not_false]
    exact (decide_eq_true (show (0 : Int) < ts by omega)).symm
  · rw [Bool.true_and, ← decide_not]
    exact decide_eq_decide.2 ⟨fun h => by omega, fun h => by omega⟩
theorem of_put {L : List Qe} {n : Nat} (h : QI L n) {r : Rq} (hr : isReal r.c r.t r.k r.y r.v = true) (ho : RqOk r) (c : Int) : ofR (dropC L r.c ++ [(r, n)]) c = if c = r.c then r else ofR L c := by
  have hp := h.put hr ho
  by_cases e : c = r.c
  · rw [if_pos e, e]
    exact (hp.of_some (e := (r, n)) (List.mem_append_right _ (List.mem_singleton.2 rfl))).2
  · rw [if_neg e]
    cases hb : ofB L c
    · rw [(of_none (of_false hb)).2]
      refine (of_none fun x hx hc => ?_).2
      rcases List.mem_append.1 hx with hx | hx
      · exact of_false hb x (dropC_mem.1 hx).1 hc
      · rw [List.mem_singleton.1 hx] at hc; exact e hc.symm
    · obtain ⟨x, hx, h1, h2⟩ := of_mem hb
      have hm : x ∈ dropC L r.c ++ [(r, n)] := List.mem_append_left _ (dropC_mem.2 ⟨hx, by rw [h2]; exact e⟩)
      rw [← h1, ← h2]
      exact (hp.of_some hm).2
theorem topC_put {L : List Qe} {n : Nat} (h : QI L n) {m : Nat} {ts : Int} (hm : 1 ≤ m ∧ m ≤ 4) (ht : 1 ≤ ts) (ho : RqOk ⟨m, ts, 1, 1, 2⟩) : (topC L).set m (.int .u32 ts) = topC (dropC L m ++ [(⟨m, ts, 1, 1, 2⟩, n)]) := by
  have hr := real1 (c := (m : Int)) (ts := ts) (y := 1) (v := 2) (by omega) (by omega) (by decide)
  have key := of_put h (r := ⟨m, ts, 1, 1, 2⟩) hr ho
  dsimp only at key
  unfold topC topV
  simp only [key]
  rcases (show m = 1 ∨ m = 2 ∨ m = 3 ∨ m = 4 by omega) with rfl | rfl | rfl | rfl <;> simp
theorem ordC_put (L : List Qe) (r : Rq) (n : Nat) : ordC (dropC L r.c ++ [(r, n)]) = (ordC L).filter (fun c => !(c == r.c)) ++ [r.c] := by
  unfold ordC dropC
  rw [List.map_append, List.filter_map]
  rfl
theorem shp_put {L : List Qe} (h : Shp L) (c ts : Int) (n : Nat) : Shp (dropC L c ++ [(⟨c, ts, 1, 1, 2⟩, n)]) := fun e he => by
  rcases List.mem_append.1 he with he | he
  · exact h e (dropC_mem.1 he).1
  · rw [List.mem_singleton.1 he]
theorem topC_at {L : List Qe} {n : Nat} (h : QI L n) {m : Nat} (hm : m ≤ 4) : (topC L)[m]? = some (.int .u32 (topV L m)) := by
  unfold topC
  rcases (show m = 0 ∨ m = 1 ∨ m = 2 ∨ m = 3 ∨ m = 4 by omega) with rfl | rfl | rfl | rfl | rfl <;> rfl
theorem topC_nil : topC [] = [.int .u32 0, .int .u32 0, .int .u32 0, .int .u32 0, .int .u32 0] := rfl
theorem ordC_wf {L : List Qe} {n : Nat} (h : QI L n) : ∀ c ∈ ordC L, (Lit.int .u8 c).wf = true := fun c hc => by
  obtain ⟨e, he, rfl⟩ := List.mem_map.1 hc
  have := (h.real e he).2.c
  exact wf8k this
theorem filt_keep {c : Int} {l : List Int} {k : Nat} {x : Int} (hx : l[k]? = some x) (hn : x ≠ c) : (l.take (k + 1)).filter (fun y => !(y == c)) = (l.take k).filter (fun y => !(y == c)) ++ [x] := by
  have h1 : k < l.length := (List.getElem?_eq_some_iff.1 hx).1
  rw [List.take_add_one, hx, List.filter_append]
  simp [hn]
theorem filt_drop {c : Int} {l : List Int} {k : Nat} (hx : l[k]? = some c) : (l.take (k + 1)).filter (fun y => !(y == c)) = (l.take k).filter (fun y => !(y == c)) := by
  rw [List.take_add_one, hx, List.filter_append]
  simp
theorem topV_mem {L : List Qe} {n : Nat} (h : QI L n) {e : Qe} (he : e ∈ L) : topV L e.1.c = e.1.t := by
  unfold topV; rw [(h.of_some he).2]
end Go.Proofs.Ytabmbppolmikcaa
