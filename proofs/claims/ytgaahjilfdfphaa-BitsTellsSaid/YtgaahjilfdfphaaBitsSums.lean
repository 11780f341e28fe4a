/- BitsSums, walked: a sum of bytes goes on from the sum of those ahead; one byte changed is another sum. -/
import Derived.Test.YtgaahjilfdfphaaBitsSum
import Derived.OwnWalk
namespace Go.Proofs.Ytgaahjilfdfphaa
open Go.RowKit Go.ChangeShapes Go.Proofs.Ytgaahjilfdfphaa.PBitsTells Go.Proofs.YtgaahjilfdfphaaW.PrintWords Go.Proofs.YtgaahjilfdfphaaW.PrintMore Go.Proofs.YtgaahjilfdfphaaW.PrintLast
theorem bts_of (x : List Int) (h : ∀ n ∈ x, (Lit.int .u8 n).wf = true) : Bts x := fun n hn => bounds_u8 (h n hn)
theorem sFrom_take (l : List Int) (n : Int) (k : Nat) (hk : k < l.length) : sFrom n (l.take (k + 1)) = IntKind.u64.wrap ((Go.bits .xor .u64 (sFrom n (l.take k)) (IntKind.u64.wrap (l.getD k 0))) * 1099511628211) := by
  rw [List.take_add_one, List.getElem?_eq_getElem hk, List.getD_eq_getElem?_getD, List.getElem?_eq_getElem hk]
  show sFrom n (l.take k ++ [l[k]]) = _
  unfold sFrom
  rw [List.foldl_append]
  rfl
theorem wf_u8 (n : Int) (h : 0 ≤ n ∧ n ≤ 255) : (Lit.int .u8 n).wf = true := by
  simp [Lit.wf, IntKind.min, IntKind.max, IntKind.bits, IntKind.signed]; omega
theorem xor8 (a b : Int) (ha : 0 ≤ a ∧ a ≤ 255) (hb : 0 < b ∧ b ≤ 255) : (0 ≤ Go.bits .xor .u8 a b ∧ Go.bits .xor .u8 a b ≤ 255) ∧ a ≠ Go.bits .xor .u8 a b := by
  obtain ⟨x, rfl⟩ := Int.eq_ofNat_of_zero_le ha.1
  obtain ⟨y, rfl⟩ := Int.eq_ofNat_of_zero_le (show 0 ≤ b by omega)
  rw [u8_xor_nat x y (by omega) (by omega)]
  have h1 : x ^^^ y < 2 ^ 8 := Nat.xor_lt_two_pow (by omega) (by omega)
  refine ⟨by omega, fun h => ?_⟩
  have h2 : x ^^^ (x ^^^ y) = x ^^^ x := by rw [← Int.ofNat_inj.1 h]
  rw [← Nat.xor_assoc, Nat.xor_self, Nat.zero_xor] at h2
  omega
set_option maxHeartbeats 4000000 in
theorem BitsSums_walk (a0 : Option Addr) (c0 : Nat) (z0 : List Int) (at_ by_ : Int) (w : World) (h0 : IsInts .u8 w a0 c0 z0) (w1 : (Lit.int .u8 at_).wf = true) (w2 : (Lit.int .u8 by_).wf = true) :
    Calls Try.prog 6 #[.slice a0 z0.length c0, .int .u8 at_, .int .u8 by_] w fun e w' => e = .returned (.bool true) ∧ Below w.heap.size w w' := by
  have hat := bounds_u8 w1
  have hby := bounds_u8 w2
  clear w1 w2
  have hle := h0.le
  have hsm := h0.small
  have hbt := hid (bts_of z0 h0.wf)
  by_cases hlen : z0.length > 300
  · go_enter Try.func6, Try.ntmps6
    go_wp2_with (go_at_call 9; (with_reducible refine (palisadelaw1_known.calls 1 true _ known_true).mono ?_); rintro e w1 ⟨rfl, hb⟩)
    go_ret
    exact ⟨rfl, ⟨hb.os, hb.tape, hb.output, hb.size, hb.block⟩⟩
  go_enter Try.func6, Try.ntmps6
  go_wp2_with (go_at_call 9; (with_reducible refine (palisadelaw1_known.calls 1 true _ known_true).mono ?_); rintro e w1 ⟨rfl, hb⟩)
  have hb' : Below w.heap.size w w1 := ⟨hb.os, hb.tape, hb.output, hb.size, hb.block⟩
  go_loopw [7, 8] (fun n i wr => ∃ k : Nat, k ≤ z0.length ∧ n = .int .u64 (sFrom 14695981039346656037 (z0.take k)) ∧ i = .int .i64 k ∧ Below w.heap.size w wr) (fun _ i _ => z0.length - (intOf i).toNat)
  case atStart => exact ⟨0, by omega, rfl, rfl, hb'⟩
  case round =>
    clear hb hb'
    obtain ⟨k, hk, rfl, rfl, hf⟩ := hrel
    by_cases hlt : k < z0.length
    · obtain ⟨ba, off, rfl, hba, hc⟩ := h0.at_ (by omega)
      have q0 : wr.cell? ⟨ba, off + k, none⟩ = _ := (hf.cell (p := ⟨ba, _, none⟩) hba).trans (hc k hlt)
      have hst := sFrom_take z0 14695981039346656037 k hlt
      clear hc h0
      generalize sFrom 14695981039346656037 (z0.take k) = n at *
      generalize z0.getD k 0 = c at *
      have hst' := hid hst; clear hst
      go_wp2
      go_roundw
      case rel => exact ⟨k + 1, by omega, by rw [hst'.out], by go_num, hf⟩
      case measure => simp [intOf]; omega
    · obtain rfl : k = z0.length := by omega
      rw [List.take_length]
      generalize hS : sFrom 14695981039346656037 z0 = S
      have HF := hid hf; clear hf
      have HI := hid h0; clear h0
      have hS' := hid hS; clear hS
      by_cases hz : z0.length = 0
      · have HL := hid hz
        rw [hz]
        go_wp2_with (go_at_call 14; (with_reducible refine (Sum_calls (HI.out.below HF.out (Nat.le_refl _)) _ (by first | exact HL.out | rfl) (by omega) _ hS'.out).mono ?_); rintro e w' ⟨rfl, ⟨nd, rfl⟩⟩)
        go_ret
        exact ⟨rfl, below_drewN HF.out _⟩
      by_cases hy : by_ = 0
      · subst hy
        go_wp2_with (go_at_call 14; (with_reducible refine (Sum_calls (HI.out.below HF.out (Nat.le_refl _)) _ (by first | exact HL.out | rfl) (by omega) _ hS'.out).mono ?_); rintro e w' ⟨rfl, ⟨nd, rfl⟩⟩)
        go_ret
        exact ⟨rfl, below_drewN HF.out _⟩
      obtain ⟨i, hi, hti⟩ : ∃ i : Nat, i < z0.length ∧ Int.tmod at_ (z0.length : Int) = (i : Int) := by
        have e1 : Int.tmod at_ (z0.length : Int) = at_ % (z0.length : Int) := tmod_pos _ _ hat.1
        have e2 := Int.emod_nonneg at_ (b := (z0.length : Int)) (by omega)
        have e3 := Int.emod_lt_of_pos at_ (b := (z0.length : Int)) (by omega)
        exact ⟨(at_ % (z0.length : Int)).toNat, by omega, by omega⟩
      have hzi := hbt.out (z0.getD i 0) (by rw [List.getD_eq_getElem?_getD, List.getElem?_eq_getElem hi]; exact List.getElem_mem hi)
      have hz2 : ((z0.length : Int) == 0) = false := beq_eq_false_iff_ne.2 (by omega)
      have hy2 : (by_ == 0) = false := beq_eq_false_iff_ne.2 hy
      have hx := xor8 (z0.getD i 0) by_ hzi (by omega)
      have hxs := sFrom_set z0 hbt.out (Go.bits .xor .u8 (z0.getD i 0) by_) hx.1 i 14695981039346656037 (by omega) hi hx.2
      rw [hS'.out] at hxs
      have hi0 : (0 : Int) ≤ (i : Int) := by omega
      have hi1 : (i : Int) < (z0.length : Int) := by omega
      have hx1 := hid hx.1
      generalize hS2 : sFrom 14695981039346656037 (z0.set i (Go.bits .xor .u8 (z0.getD i 0) by_)) = S2 at *
      have hS2' := hid hS2; clear hS2 hx
      clear hzi
      generalize hce : z0.getD i 0 = c at *
      have hCE := hid hce; clear hce
      have hne : decide (S2 = S) = false := decide_eq_false hxs
      have hne2 : (S2 == S) = false := beq_eq_false_iff_ne.2 hxs
      have hne3 : (S2 != S) = true := bne_iff_ne.2 hxs
      clear hxs
      go_wp2_with (first
        | (go_at_call 14; (with_reducible refine (Sum_calls (HI.out.below HF.out (Nat.le_refl _)) _ (by first | exact HL.out | rfl) (by omega) _ hS'.out).mono ?_); rintro e w' ⟨rfl, ⟨nd, rfl⟩⟩; have HF2 := hid (below_drewN HF.out nd); clear HF; have HF := HF2; clear HF2; have HFS := hid HF.out.size)
        | (at_builtin; obtain ⟨g, cap, cs, wa, hrun, hblk, htk, hcl, hcm, hfr, hgn⟩ := app_own (HI.out.below HF.out (Nat.le_refl _)) (by omega) (by omega); refine wpList_run rfl _ _ _ _ rfl rfl rfl hrun ?_; clear hrun; have HB := hid (below_frm0 HF.out hfr); clear HF; have u0 : wa.cell? ⟨g, i, none⟩ = some (.int .u8 c) := hCE.out ▸ (hblk.cell i).trans (own_cell htk hi); have u1 : wa.frozen? ⟨g, i, none⟩ = false := hblk.free i; have HJ := hid (IsInts.of_set hblk htk hcl hcm HI.out.wf i (Go.bits .xor .u8 c by_) (wf_u8 _ hx1.out)); have HF := hid (below_frm1 HB.out ((Frm.refl (· = g) wa).setCell ⟨g, i, none⟩ (.int .u8 (Go.bits .xor .u8 c by_)) (.inr rfl)) (Nat.le_trans HFS.out hgn)); clear hblk htk hgn hfr)
        | (go_at_call 14; (with_reducible refine (Sum_calls HJ.out _ (List.length_set ..) (by omega) _ hS2'.out).mono ?_); rintro e w' ⟨rfl, ⟨nd, rfl⟩⟩))
      go_ret
      exact ⟨rfl, below_drewN HF.out _⟩
end Go.Proofs.Ytgaahjilfdfphaa
