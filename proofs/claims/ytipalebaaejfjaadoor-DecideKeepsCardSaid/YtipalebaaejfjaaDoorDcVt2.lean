/- Whether a view begins, whatever the votes. -/
import Derived.Test.YtipalebaaejfjaaDoorDcVts2
import Derived.Test.YtipalebaaejfjaaDoorDcKnP
namespace Go.Proofs.YtipalebaaejfjaaDoor
open Go.RowKit Go.ChangeShapes
set_option linter.unusedVariables false
set_option linter.unusedSimpArgs false
set_option maxRecDepth 100000
def vtsB2 (view : Int) (l : List Vm) : Bool := decide (3 ≤ l.length ∧ l.length ≤ 4) && (l.all (fun x => voteB2 x && decide (x.v = view)) && ascB l)
theorem vtsB2_iff (view : Int) (l : List Vm) : VotesP2 view l ↔ vtsB2 view l = true := by
  rw [vtsB2, Bool.and_eq_true, Bool.and_eq_true, decide_eq_true_eq, List.all_eq_true, ascB_iff]
  constructor
  · rintro ⟨h1, h2⟩
    refine ⟨h1, fun x hx => ?_, fun i x y hx hy => h2.ord i x y ?_ hx hy⟩
    · obtain ⟨i, hi⟩ := List.getElem?_of_mem hx
      have hl : i < l.length := (List.getElem?_eq_some_iff.1 hi).1
      obtain ⟨h3, h4⟩ := h2.ok i x hl hi
      rw [h3, h4]; simp
    · exact (List.getElem?_eq_some_iff.1 hy).1
  · rintro ⟨h1, h2, h3⟩
    refine ⟨h1, ⟨fun i x hi hx => ?_, fun i x y _ hx hy => h3 i x y hx hy⟩⟩
    have := h2 x (List.mem_of_getElem? hx)
    simpa using this
theorem Votes2_at {w : World} {a : Option Addr} {cap L : Nat} {l : List Vm} (h : IsVos2 w a cap l) (hL : l.length = L) (view : Int) (z : Bool) (hz : vtsB2 view l = z) (w' : World) (f : Frm (fun _ => False) w w') :
    Calls Tryd.prog 17 #[.int .u32 view, .slice a L cap] w' fun e w'' => e = .returned (.bool z) ∧ Frm (fun _ => False) w' w'' := by
  have := Votes2_calls (h.quiet f) view z (by rw [vtsB2_iff, hz])
  rwa [hL] at this
/-- Does a view begin? -/
def goodB (view : Int) (l : List Vm) : Bool := vtsB2 view l && ((baseR l).fd && chG l (fun (i : Nat) => ((baseR l).s + (i : Int)) % 4294967296) 8)
theorem goodB_vts {view : Int} {l : List Vm} (h : goodB view l = true) : vtsB2 view l = true := by
  unfold goodB at h; cases hv : vtsB2 view l
  · rw [hv] at h; simp at h
  · rfl
theorem Choose_yes {w : World} {a : Option Addr} {cap L : Nat} {l : List Vm} (h : IsVos2 w a cap l) (hL : l.length = L) (view : Int) (hg : goodB view l = true) :
    Calls Tryd.prog 15 #[.int .u32 view, .slice a L cap] w fun e w' => (∃ (s r : Int) (g n c : Nat), e = .returned (.tuple #[.agg #[.int .u32 s, .int .u64 r], .slice (some ⟨g, 0, none⟩) n c, .int .i64 0]) ∧ n ≤ 8 ∧ s = (baseR l).s ∧ r = (baseR l).r ∧ IsRow 5 rqC w' (some ⟨g, 0, none⟩) c ((chL l (fun (i : Nat) => ((baseR l).s + (i : Int)) % 4294967296) 8).take n) ∧ n = chN l (fun (i : Nat) => ((baseR l).s + (i : Int)) % 4294967296) 8) ∧ Frm (fun _ => False) w w' := by
  refine (Choose_calls h.row hL h.ok view true (Votes2_at h hL view true (goodB_vts hg)) (zf := (baseR l).fd) (zs := (baseR l).s) (zr := (baseR l).r) rfl _ (fun i _ _ => rfl) true (by have h2 := hg; rw [goodB, goodB_vts hg] at h2; exact h2)).mono ?_
  rintro e w' ⟨f, ⟨h0, _⟩ | ⟨_, g, c, he, hr⟩⟩
  · cases h0
  · have hle := chN_le l (fun (i : Nat) => ((baseR l).s + (i : Int)) % 4294967296) 8
    have hlen : ((chL l (fun (i : Nat) => ((baseR l).s + (i : Int)) % 4294967296) 8).take (chN l (fun (i : Nat) => ((baseR l).s + (i : Int)) % 4294967296) 8)).length = chN l (fun (i : Nat) => ((baseR l).s + (i : Int)) % 4294967296) 8 := by
      rw [List.length_take, chL_len]; omega
    rw [hlen] at he
    exact ⟨⟨_, _, g, _, c, he, hle, rfl, rfl, hr, rfl⟩, f⟩
theorem Choose_no {w : World} {a : Option Addr} {cap L : Nat} {l : List Vm} (h : IsVos2 w a cap l) (hL : l.length = L) (view : Int) (hg : goodB view l = false) :
    Calls Tryd.prog 15 #[.int .u32 view, .slice a L cap] w fun e w' => e = .returned (.tuple #[.agg #[.int .u32 0, .int .u64 0], .slice none 0 0, .int .i64 150]) ∧ Frm (fun _ => False) w w' := by
  refine (Choose_calls h.row hL h.ok view _ (Votes2_at h hL view _ rfl) (zf := (baseR l).fd) (zs := (baseR l).s) (zr := (baseR l).r) rfl _ (fun i _ _ => rfl) false hg).mono ?_
  rintro e w' ⟨f, ⟨_, he⟩ | ⟨h0, _⟩⟩
  · exact ⟨he, f⟩
  · cases h0
theorem vts_two (view : Int) (l : List Vm) (h : l.length < 3) : goodB view l = false := by
  unfold goodB vtsB2
  rw [decide_eq_false (by omega)]; rfl
theorem vts_dup (view : Int) (a b : Vm) : goodB view [a, b, b] = false := by
  unfold goodB vtsB2
  simp [ascB]
theorem IsVos2.take {w : World} {a : Option Addr} {cap : Nat} {l : List Vm} (h : IsVos2 w a cap l) (k : Nat) : IsVos2 w a cap (l.take k) :=
  ⟨h.row.take k, fun x hx => h.ok x (List.mem_of_mem_take hx), fun x hx => h.bp x (List.mem_of_mem_take hx), fun x hx => h.bq x (List.mem_of_mem_take hx), fun x hx => h.bm x (List.mem_of_mem_take hx), h.tab⟩
/-- Some of them, copied into a block. -/
theorem IsVos2.copy {w W : World} {a : Option Addr} {cap : Nat} {l m : List Vm} (h : IsVos2 w a cap l) (f : Frm (fun _ => False) w W) (hm : ∀ x ∈ m, x ∈ l) {g T : Nat} (hb : Blk W g (m.flatMap vmC) T) (hl : m.length ≤ 9223372036854775807) : IsVos2 W (some ⟨g, 0, none⟩) m.length m :=
  ⟨IsRow.of_blk vmC_len hb hl, fun x hx => (h.ok x (hm x hx)).quiet f, fun x hx => h.bp x (hm x hx), fun x hx => h.bq x (hm x hx), fun x hx => h.bm x (hm x hx), h.tab.frm f⟩
end Go.Proofs.YtipalebaaejfjaaDoor
