/- Sums of pages: Leaf. -/
import Derived.Test.YtknaalaajmhjgaaMix
import Derived.Test.YtknaalaajmhjgaaPgPage
namespace Go.Proofs.Ytknaalaajmhjgaa
open Go.RowKit Go.ChangeShapes
set_option maxRecDepth 20000
set_option linter.unusedVariables false
set_option linter.unusedSimpArgs false
theorem mk_cap (n : Nat) (hn : n ≤ 281474976710656) (w : World) : (Instr.makeSlice 33 (.int .i64 0) (.int .i64 (n : Int))).run Try.prog w = .ok (.slice (some ⟨w.heap.size, 0, none⟩) 0 n) (w.alloc (.cells (madeCells #[.int .u8 0] n) 5)) := by
  obtain ⟨i, hi, hzz⟩ := Option.map_eq_some_iff.1 u8_info
  simp only [Prod.mk.injEq] at hzz
  obtain ⟨hz, hs, hb⟩ := hzz
  have hr := run_make (P := Try.prog) w 33 5 i (.int .u8 0) Try.underlying33 hi hz .i64 .i64 0 n (by omega) (by omega) (by rw [hb]; omega) (by omega)
  simp only [Int.toNat_natCast, hs, Nat.mul_one, Value.cells] at hr
  exact hr
theorem mk_own (w : World) (n : Nat) (hn : n ≤ 140737488355328) : OwnB (w.alloc (.cells (madeCells #[.int .u8 0] n) 5)) (fun k => k < w.heap.size) (.slice (some ⟨w.heap.size, 0, none⟩) 0 n) [] := by
  have hg : (w.alloc (.cells (madeCells #[.int .u8 0] n) 5)).heap[w.heap.size]? = some (.cells (madeCells #[.int .u8 0] n) 5 (0, 0)) := by
    show (w.heap.push _)[w.heap.size]? = _
    simp
  refine ⟨⟨by simp, .inr ⟨w.heap.size, n, _, rfl, Nat.zero_le _, hg, Nat.zero_le _, by simp only [maxLen]; omega, by rw [size_madeCells]; simp, by simp⟩⟩, fun k hk => ?_, fun _ h => by cases h⟩
  simp [Value.ownBlock] at hk
  omega
theorem one_ints2 (w : World) (o : Obj) (d : Int) (T : Nat) (hd : (Lit.int .u8 d).wf = true) : IsInts .u8 ((w.alloc o).alloc (.cells #[.int .u8 d] T)) (some ⟨w.heap.size + 1, 0, none⟩) 1 [d] := by
  have h := one_ints (w.alloc o) d T hd
  rw [World.size_alloc] at h
  exact h
def leafS (p : Int) (b : List Int) : Int := sFrom 14695981039346656037 (p % 256 :: b)
set_option maxHeartbeats 4000000 in
theorem Leaf_calls {w : World} (p : Int) {a : Option Addr} {c : Nat} {b : List Int} (n : Nat) (hb : IsInts .u8 w a c b) (hn : b.length = n) (hl : n ≤ 100000) (S : Int) (hS : leafS p b = S) :
    Calls Try.prog 13 #[.int .i64 p, .slice a n c] w fun e w' => e = .returned (.int .u64 S) ∧ Frm (fun _ => False) w w' := by
  obtain ⟨d, hd⟩ : ∃ d, p % 256 = d := ⟨_, rfl⟩
  have hw : IntKind.u8.wrap p = d := by rw [wrap_u8]; exact hd
  have hdw : (Lit.int .u8 d).wf = true := hd ▸ wf8 p
  have hS' : sFrom 14695981039346656037 ([] ++ [d] ++ b) = S := by rw [← hS, leafS, hd]; rfl
  have HB := hid hb; have HN := hid hn; have HS := hid hS'; have HD := hid hdw
  have HV0 := hid (mk_own w (n + 1) (by omega))
  have hmk := mk_cap (n + 1) (by omega)
  have hc1 : ((n + 1 : Nat) : Int) = (n : Int) + 1 := by omega
  rw [hc1] at hmk
  have HL := hid hl
  clear hb hn hS hS' hdw hc1
  go_enter Try.func13, Try.ntmps13
  go_wp2_with (first
    | (at_builtin; refine wpList_more rfl _ _ rfl rfl (HV0.out.frm0 (frm_box _ _)) (fun k hk => by simp; omega) (one_ints2 w _ d _ HD.out) (show ([d] : List Int).length = 1 from rfl) (by simp) rfl rfl ?_; intro a' l' c' wq ho' hf' hat'; have HF := hid (((((Below.refl w.heap.size w).alloc (Nat.le_refl _) _).alloc (by simp) _)).trans (hf'.below (by simp; omega) (fun k hk hn => by simp [Value.ownBlock] at hn; omega))); have HV := hid ho'; clear HV0 ho' hf' hat')
    | (at_builtin; refine wpList_more rfl _ _ rfl rfl HV.out (fun k hk => Nat.lt_of_lt_of_le hk HF.out.size) (HB.out.below HF.out (Nat.le_refl _)) HN.out (by have := HL.out; simp; omega) rfl rfl ?_; intro a' l' c' wq ho' hf' hat'; have n1 := hid (HF.out.trans (hf'.below HF.out.size (fun k hk hn => HV.out.off k hn hk))); clear HF HV hf' hat'; have HF := n1; have HV := hid ho'; clear n1 ho')
    | (go_at_call 36; obtain ⟨a9, c9, e9, hi9, _⟩ := HV.out.ints; cases e9; (with_reducible refine (Sum_calls hi9 _ rfl S HS.out).mono ?_); rintro e w' ⟨rfl, rfl⟩; clear hi9))
  go_ret
  exact ⟨rfl, frm0_of HF.out⟩
end Go.Proofs.Ytknaalaajmhjgaa
