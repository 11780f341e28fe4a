/- Marks: Count, ContainsFunc, Top. -/
import Derived.Test.YtiffhkhmkigolaaMkOf
namespace Go.Proofs.Ytiffhkhmkigolaa
open Go.RowKit Go.ChangeShapes
set_option linter.unusedVariables false
set_option linter.unusedSimpArgs false
set_option maxRecDepth 100000
theorem bidx0 (a b c d : Bool) (w : World) : (Instr.index TB4 (.agg #[.bool a, .bool b, .bool c, .bool d]) (.int .i64 0)).run Try.prog w = .ok (.bool a) w := by kernel_rfl
theorem bidx1 (a b c d : Bool) (w : World) : (Instr.index TB4 (.agg #[.bool a, .bool b, .bool c, .bool d]) (.int .i64 1)).run Try.prog w = .ok (.bool b) w := by kernel_rfl
theorem bidx2 (a b c d : Bool) (w : World) : (Instr.index TB4 (.agg #[.bool a, .bool b, .bool c, .bool d]) (.int .i64 2)).run Try.prog w = .ok (.bool c) w := by kernel_rfl
theorem bidx3 (a b c d : Bool) (w : World) : (Instr.index TB4 (.agg #[.bool a, .bool b, .bool c, .bool d]) (.int .i64 3)).run Try.prog w = .ok (.bool d) w := by kernel_rfl
/-- How many have it, but one. -/
def pc (b : Nat → Bool) (but : Int) : Nat → Int
  | 0 => 0
  | k + 1 => pc b but k + (if b k = true ∧ ¬ (k : Int) = but then 1 else 0)
def cntB (b : Nat → Bool) (but : Int) : Int := pc b but 4
theorem pc_le (b : Nat → Bool) (but : Int) : ∀ k, 0 ≤ pc b but k ∧ pc b but k ≤ k
  | 0 => ⟨Int.le_refl _, Int.le_refl _⟩
  | k + 1 => by have := pc_le b but k; unfold pc; split <;> omega
theorem pc_yes {b : Nat → Bool} {but : Int} {k : Nat} {C : Int} (hC : pc b but k = C) (h : b k = true) (h2 : ¬ (k : Int) = but) : pc b but (k + 1) = C + 1 := by rw [pc, hC, if_pos ⟨h, h2⟩]
theorem pc_no {b : Nat → Bool} {but : Int} {k : Nat} {C : Int} (hC : pc b but k = C) (h : ¬ (b k = true ∧ ¬ (k : Int) = but)) : pc b but (k + 1) = C := by rw [pc, hC, if_neg h, Int.add_zero]
set_option maxHeartbeats 16000000 in
theorem MCount_calls {w : World} {lb mb N : Nat} {σ : Has} (h : IsMk w lb mb N σ) (m : Mk) (hm : okK m) (but n : Int) (hn : cntB (σ m) but = n) :
    Calls Try.prog 11 #[.pointer (some ⟨lb, 0, none⟩), .int .u32 m.1, .int .u64 m.2, .int .i64 but] w fun e w' => e = .returned (.int .i64 n) ∧ w = w' := by
  have q0 := h.cell
  have q1 := h.look m hm
  obtain ⟨y0, y1, y2, y3, hy⟩ : ∃ y0 y1 y2 y3, (σ m 0 = y0 ∧ σ m 1 = y1 ∧ σ m 2 = y2 ∧ σ m 3 = y3) := ⟨_, _, _, _, rfl, rfl, rfl, rfl⟩
  have hb4 : b4V (σ m) = .agg #[.bool y0, .bool y1, .bool y2, .bool y3] := by unfold b4V; rw [hy.1, hy.2.1, hy.2.2.1, hy.2.2.2]
  rw [hb4] at q1
  have HY := hid hy; have HN := hid hn
  obtain ⟨ms, mr⟩ := m
  simp only [mkV] at q1
  clear h hm hn hy hb4
  go_enter Try.func11, Try.ntmps11
  go_wp2
  go_loopw [9, 20] (fun nv kv wr => ∃ k : Nat, k ≤ 4 ∧ nv = .int .i64 (pc (σ (ms, mr)) but k) ∧ kv = .int .i64 k ∧ wr = w) (fun _ kv _ => 4 - (intOf kv).toNat)
  case atStart => exact ⟨0, by omega, rfl, rfl, rfl⟩
  case round =>
    obtain ⟨k, hk, rfl, rfl, rfl⟩ := hrel
    obtain ⟨C, hC⟩ : ∃ C, pc (σ (ms, mr)) but k = C := ⟨_, rfl⟩
    have hcb := pc_le (σ (ms, mr)) but k
    rw [hC] at hcb ⊢
    have HC := hid hC
    obtain ⟨hc0, hc1⟩ := hcb
    clear q0 q1 hC
    rcases (show k = 0 ∨ k = 1 ∨ k = 2 ∨ k = 3 ∨ k = 4 by omega) with rfl | rfl | rfl | rfl | rfl
    · have ix := bidx0 y0 y1 y2 y3
      have hc4 : C ≤ 4 := by omega
      clear hk
      cases y0
      · have HK := hid (pc_no HC.out (fun h => by rw [HY.out.1] at h; exact absurd h.1 (by decide)))
        go_wp2
        go_roundw
        case rel => exact ⟨1, by omega, by rw [HK.out], rfl, by first | rfl | trivial⟩
        case measure => simp [intOf]
      · by_cases hb : (0 : Int) = but
        · subst hb
          have HK := hid (pc_no HC.out (fun h => h.2 rfl))
          go_wp2
          go_roundw
          case rel => exact ⟨1, by omega, by rw [HK.out], rfl, by first | rfl | trivial⟩
          case measure => simp [intOf]
        · have e1 : ((0 : Int) == but) = false := beq_eq_false_iff_ne.2 hb
          have e2 : ((0 : Int) != but) = true := by rw [bne, e1]; rfl
          have HK := hid (pc_yes HC.out HY.out.1 hb)
          go_wp2
          go_roundw
          case rel => exact ⟨1, by omega, by rw [HK.out], rfl, by first | rfl | trivial⟩
          case measure => simp [intOf]
    · have ix := bidx1 y0 y1 y2 y3
      have hc4 : C ≤ 4 := by omega
      clear hk
      cases y1
      · have HK := hid (pc_no HC.out (fun h => by rw [HY.out.2.1] at h; exact absurd h.1 (by decide)))
        go_wp2
        go_roundw
        case rel => exact ⟨2, by omega, by rw [HK.out], rfl, by first | rfl | trivial⟩
        case measure => simp [intOf]
      · by_cases hb : (1 : Int) = but
        · subst hb
          have HK := hid (pc_no HC.out (fun h => h.2 rfl))
          go_wp2
          go_roundw
          case rel => exact ⟨2, by omega, by rw [HK.out], rfl, by first | rfl | trivial⟩
          case measure => simp [intOf]
        · have e1 : ((1 : Int) == but) = false := beq_eq_false_iff_ne.2 hb
          have e2 : ((1 : Int) != but) = true := by rw [bne, e1]; rfl
          have HK := hid (pc_yes HC.out HY.out.2.1 hb)
          go_wp2
          go_roundw
          case rel => exact ⟨2, by omega, by rw [HK.out], rfl, by first | rfl | trivial⟩
          case measure => simp [intOf]
    · have ix := bidx2 y0 y1 y2 y3
      have hc4 : C ≤ 4 := by omega
      clear hk
      cases y2
      · have HK := hid (pc_no HC.out (fun h => by rw [HY.out.2.2.1] at h; exact absurd h.1 (by decide)))
        go_wp2
        go_roundw
        case rel => exact ⟨3, by omega, by rw [HK.out], rfl, by first | rfl | trivial⟩
        case measure => simp [intOf]
      · by_cases hb : (2 : Int) = but
        · subst hb
          have HK := hid (pc_no HC.out (fun h => h.2 rfl))
          go_wp2
          go_roundw
          case rel => exact ⟨3, by omega, by rw [HK.out], rfl, by first | rfl | trivial⟩
          case measure => simp [intOf]
        · have e1 : ((2 : Int) == but) = false := beq_eq_false_iff_ne.2 hb
          have e2 : ((2 : Int) != but) = true := by rw [bne, e1]; rfl
          have HK := hid (pc_yes HC.out HY.out.2.2.1 hb)
          go_wp2
          go_roundw
          case rel => exact ⟨3, by omega, by rw [HK.out], rfl, by first | rfl | trivial⟩
          case measure => simp [intOf]
    · have ix := bidx3 y0 y1 y2 y3
      have hc4 : C ≤ 4 := by omega
      clear hk
      cases y3
      · have HK := hid (pc_no HC.out (fun h => by rw [HY.out.2.2.2] at h; exact absurd h.1 (by decide)))
        go_wp2
        go_roundw
        case rel => exact ⟨4, by omega, by rw [HK.out], rfl, by first | rfl | trivial⟩
        case measure => simp [intOf]
      · by_cases hb : (3 : Int) = but
        · subst hb
          have HK := hid (pc_no HC.out (fun h => h.2 rfl))
          go_wp2
          go_roundw
          case rel => exact ⟨4, by omega, by rw [HK.out], rfl, by first | rfl | trivial⟩
          case measure => simp [intOf]
        · have e1 : ((3 : Int) == but) = false := beq_eq_false_iff_ne.2 hb
          have e2 : ((3 : Int) != but) = true := by rw [bne, e1]; rfl
          have HK := hid (pc_yes HC.out HY.out.2.2.2 hb)
          go_wp2
          go_roundw
          case rel => exact ⟨4, by omega, by rw [HK.out], rfl, by first | rfl | trivial⟩
          case measure => simp [intOf]
    · have HNC := hid (show C = n from HC.out.symm.trans HN.out)
      clear hk
      go_wp2
      go_ret
      exact ⟨ret_int HNC.out, by first | rfl | trivial⟩
theorem C1_calls (w : World) (a : Mk) (sb : Nat) (s : Int) (hs : w.cell? ⟨sb, 0, none⟩ = some (.int .u32 s)) (z : Bool) (hz : (a.1 == s) = z) :
    Calls Try.prog 25 #[.agg #[.int .u32 a.1, .int .u64 a.2], .pointer (some ⟨sb, 0, none⟩)] w fun e w' => e = .returned (.bool z) ∧ Frm (fun _ => False) w w' := by
  have hl := World.block_lt_of_cell? _ _ hs
  have hs2 := fun o => (Frm.cell (p := ⟨sb, 0, none⟩) (mbox w o) hl (fun h => h)).trans hs
  dsimp only at hl
  obtain ⟨a1, a2⟩ := a
  have HZ := hid hz
  clear hz
  go_enter Try.func25, Try.ntmps25
  go_wp2
  go_ret
  exact ⟨ret_bool HZ.out, mbox _ _⟩
def hasS (s : Int) (H : List Mk) : Bool := H.any fun m => m.1 == s
theorem hasS_yes {s : Int} {H : List Mk} {j : Nat} {m : Mk} (hj : H[j]? = some m) (h : (m.1 == s) = true) : hasS s H = true := List.any_eq_true.2 ⟨m, List.mem_of_getElem? hj, h⟩
theorem hasS_no {s : Int} {H : List Mk} (h : ∀ j m, j < H.length → H[j]? = some m → (m.1 == s) = false) : hasS s H = false := by
  refine Bool.eq_false_iff.2 fun e => ?_
  obtain ⟨m, hm, h2⟩ := List.any_eq_true.1 e
  obtain ⟨j, hj⟩ := List.mem_iff_getElem?.1 hm
  rw [h j m (List.getElem?_eq_some_iff.1 hj).1 hj] at h2
  exact absurd h2 (by decide)
set_option maxHeartbeats 8000000 in
theorem Idx_calls {w : World} {A : Nat → Prop} {v : Value} {H : List Mk} (h : OwnM w A v H) (hl : H.length ≤ 100) (sb : Nat) (s : Int) (hs : w.cell? ⟨sb, 0, none⟩ = some (.int .u32 s)) :
    Calls Try.prog 27 #[v, .func (.func 25) #[] #[.pointer (some ⟨sb, 0, none⟩)]] w fun e w' => (∃ z : Int, e = .returned (.int .i64 z) ∧ decide (0 ≤ z) = hasS s H) ∧ Frm (fun _ => False) w w' := by
  have hsl := World.block_lt_of_cell? _ _ hs
  have HS := hid (show ∀ w', Frm (fun _ => False) w w' → w'.cell? ⟨sb, 0, none⟩ = some (.int .u32 s) from fun w' f => (f.cell (p := ⟨sb, 0, none⟩) hsl (fun h => h)).trans hs)
  obtain ⟨oa, oc, hov⟩ := h.slice
  subst hov
  have HO := hid h; have HL := hid hl
  have hln : (H.length : Int) ≤ 100 := by omega
  have hln0 : (0 : Int) ≤ (H.length : Int) := by omega
  clear h hl hs hsl
  go_enter Try.func27, Try.ntmps27
  go_wp2
  go_loopw [8] (fun jv wr => ∃ j : Nat, j ≤ H.length ∧ jv = .int .i64 j ∧ (∀ i m, i < j → H[i]? = some m → (m.1 == s) = false) ∧ Frm (fun _ => False) w wr) (fun jv _ => H.length - (intOf jv).toNat)
  case atStart => exact ⟨0, by omega, rfl, fun i m h => by omega, Frm.refl _ _⟩
  case round =>
    obtain ⟨j, hj, rfl, hp, hf⟩ := hrel
    have HP := hid hp; have HF := hid hf; have HJ := hid hj
    clear hp hf
    by_cases hlt : j < H.length
    · obtain ⟨x, hx⟩ : ∃ x, H[j]? = some x := ⟨_, List.getElem?_eq_getElem hlt⟩
      obtain ⟨g, c, hv, _, _, hc⟩ := HO.out.at_ (by omega)
      injection hv with e1 e2 e3
      subst e1 e3
      have c0 := (HO.out.quiet HF.out).cells j x hx 0 (by decide); have c1 := (HO.out.quiet HF.out).cells j x hx 1 (by decide)
      simp only [mkC, List.getElem?_cons_succ, List.getElem?_cons_zero, Nat.add_zero] at c0 c1
      have HX := hid hx; have HLT := hid hlt
      have hjl : (j : Int) < (H.length : Int) := by omega
      have hj0 : (0 : Int) ≤ (j : Int) := by omega
      obtain ⟨xs, xr⟩ := x
      dsimp only at c0 c1
      obtain ⟨z, hz⟩ : ∃ z, (xs == s) = z := ⟨_, rfl⟩
      have HZ := hid hz
      clear hx hlt hc e2 hj hz
      cases z
      · go_wp2_with (go_at_call 25; (with_reducible refine (C1_calls _ (xs, xr) sb s (HS.out _ HF.out) _ HZ.out).mono ?_); rintro e w5 ⟨rfl, f'⟩; have HF2 := hid (HF.out.trans f'); clear f')
        go_roundw
        case rel => exact ⟨j + 1, by have := HLT.out; omega, rfl, fun i m hi hm => by
          by_cases e : i = j
          · rw [e, HX.out] at hm; obtain rfl := Option.some.inj hm; exact HZ.out
          · exact HP.out i m (by omega) hm, HF2.out⟩
        case measure => have := HLT.out; simp [intOf]; omega
      · go_wp2_with (go_at_call 25; (with_reducible refine (C1_calls _ (xs, xr) sb s (HS.out _ HF.out) _ HZ.out).mono ?_); rintro e w5 ⟨rfl, f'⟩; have HF2 := hid (HF.out.trans f'); clear f')
        go_ret
        exact ⟨⟨_, rfl, by rw [hasS_yes HX.out HZ.out]; exact decide_eq_true hj0⟩, HF2.out⟩
    · have HNO := hid (hasS_no fun i m hi hm => HP.out i m (by omega) hm)
      have hjl : ¬ (j : Int) < (H.length : Int) := by omega
      clear hlt hj
      go_wp2
      go_ret
      exact ⟨⟨_, rfl, by rw [HNO.out]; rfl⟩, HF.out⟩
theorem Con_calls {w : World} {A : Nat → Prop} {v : Value} {H : List Mk} (h : OwnM w A v H) (hl : H.length ≤ 100) (sb : Nat) (s : Int) (hs : w.cell? ⟨sb, 0, none⟩ = some (.int .u32 s)) (z : Bool) (hz : hasS s H = z) :
    Calls Try.prog 23 #[v, .func (.func 25) #[] #[.pointer (some ⟨sb, 0, none⟩)]] w fun e w' => e = .returned (.bool z) ∧ Frm (fun _ => False) w w' := by
  have HO := hid h; have HL := hid hl; have HS := hid hs; have HZ := hid hz
  clear h hl hs hz
  go_enter Try.func23, Try.ntmps23
  go_wp2_with (go_at_call 27; (with_reducible refine (Idx_calls HO.out HL.out sb s HS.out).mono ?_); rintro e w5 ⟨⟨y, rfl, hy⟩, f'⟩; have HY := hid hy; have HF := hid f'; clear hy f')
  go_ret
  exact ⟨ret_bool (HY.out.trans HZ.out), HF.out⟩
set_option maxHeartbeats 8000000 in
theorem MTop_calls {w : World} {lb mb N : Nat} {σ : Has} (h : IsMk w lb mb N σ) (n : Nat) (hn : n < 4) (F : Int) (hF : F = n) {H : List Mk} (hH : OfH σ n H) (z : Int) (hz : sq H 0 = z) :
    Calls Try.prog 19 #[.pointer (some ⟨lb, 0, none⟩), .int .u8 F] w fun e w' => e = .returned (.int .u32 z) ∧ Frm (fun _ => False) w w' := by
  have HE := hid h; have HN := hid hn; have HM := hid hF; have HHH := hid hH; have HZ := hid hz
  clear h hn hF hH hz
  cases H with
  | nil =>
    have HZ0 := hid (show (0 : Int) = z from HZ.out)
    go_enter Try.func19, Try.ntmps19
    go_wp2_with (go_at_call 24; (with_reducible refine (of_calls HE.out n HN.out F HM.out HHH.out).mono ?_); rintro e w5 ⟨ov, rfl, ho, f'⟩; obtain ⟨oa, oc, hov⟩ := ho.slice; subst hov; have HF := hid f'; clear ho f')
    go_ret
    exact ⟨ret_int HZ0.out, HF.out⟩
  | cons x H =>
    have HZ0 := hid (show x.1 = z from HZ.out)
    have hh3 : H.length + 1 ≤ 3 := HHH.out.few
    have hl0 : (0 : Int) < ((H.length + 1 : Nat) : Int) := by omega
    obtain ⟨L, hL⟩ : ∃ L, H.length + 1 = L := ⟨_, rfl⟩
    have hL0 : (0 : Int) < (L : Int) := by omega
    have hL3 : (L : Int) ≤ 3 := by omega
    have HLL := hid hL
    clear hh3 hl0 hL
    go_enter Try.func19, Try.ntmps19
    go_wp2_with (go_at_call 24; (with_reducible refine (of_calls HE.out n HN.out F HM.out HHH.out).mono ?_); rintro e w5 ⟨ov, rfl, ho, f'⟩; obtain ⟨g, c, hov, hc1, hc2, hc3⟩ := ho.at_ (Nat.succ_pos _); (rw [List.length_cons, HLL.out] at hov hc1); subst hov; have c0 := hc3 0 x rfl 0 (by decide); (simp only [mkC, List.getElem?_cons_zero, Nat.zero_mul, Nat.add_zero] at c0); have HF := hid f'; clear hc3 ho f')
    go_ret
    exact ⟨ret_int HZ0.out, HF.out⟩
end Go.Proofs.Ytiffhkhmkigolaa
