/- LedgerWorst, walked: the worst that there was never goes down; who ever was in it stays named. -/
import Derived.Test.YtmfklfgddblmdaaLedgerKnown
import Derived.Test.YtmfklfgddblmdaaArgs
import Derived.OpenShut
namespace Go.Proofs.Ytmfklfgddblmdaa
open Go.RowKit Go.ChangeShapes
theorem getD_mem {zs : List Int} {k : Nat} (h : k < zs.length) : zs.getD k 0 ∈ zs := by
  rw [List.getD_eq_getElem?_getD, List.getElem?_eq_getElem h]; exact List.getElem_mem h
set_option linter.unusedSimpArgs false
structure Sound (s : Lg) : Prop where
  u0 : s.i0 = true → s.e0 = true
  u1 : s.i1 = true → s.e1 = true
  u2 : s.i2 = true → s.e2 = true
  u3 : s.i3 = true → s.e3 = true
  len : s.len ≤ s.worst
  low : 0 ≤ s.worst
  high : s.worst ≤ 4
theorem len_sum (s : Lg) : s.len = (if s.i0 then 1 else 0) + (if s.i1 then 1 else 0) + (if s.i2 then 1 else 0) + (if s.i3 then 1 else 0) := by
  simp [Lg.len, cnt]
theorem bit_bd (b : Bool) : 0 ≤ (if b then 1 else 0 : Int) ∧ (if b then 1 else 0 : Int) ≤ 1 := by cases b <;> decide
theorem bit_c (i0 i1 i2 i3 : Bool) : Go.bits .and .u8 (msk i0 i1 i2 i3 4) 1 = (if i0 then 1 else 0) ∧ Go.bits .and .u8 (msk i0 i1 i2 i3 4 / 2) 1 = (if i1 then 1 else 0) ∧ Go.bits .and .u8 (msk i0 i1 i2 i3 4 / 4) 1 = (if i2 then 1 else 0) ∧ Go.bits .and .u8 (msk i0 i1 i2 i3 4 / 8) 1 = (if i3 then 1 else 0) := by
  cases i0 <;> cases i1 <;> cases i2 <;> cases i3 <;> decide
theorem bit_and0 (i0 i1 i2 i3 : Bool) : Go.bits .and .u8 (msk i0 i1 i2 i3 4) 1 = if i0 then 1 else 0 := by cases i0 <;> cases i1 <;> cases i2 <;> cases i3 <;> decide
theorem bit_or0 (i0 i1 i2 i3 : Bool) : Go.bits .or .u8 (msk i0 i1 i2 i3 4) 1 = msk true i1 i2 i3 4 := by cases i0 <;> cases i1 <;> cases i2 <;> cases i3 <;> decide
theorem bit_not0 (i0 i1 i2 i3 : Bool) : Go.bits .andNot .u8 (msk i0 i1 i2 i3 4) 1 = msk false i1 i2 i3 4 := by cases i0 <;> cases i1 <;> cases i2 <;> cases i3 <;> decide
theorem bit_and1 (i0 i1 i2 i3 : Bool) : Go.bits .and .u8 (msk i0 i1 i2 i3 4) 2 = if i1 then 2 else 0 := by cases i0 <;> cases i1 <;> cases i2 <;> cases i3 <;> decide
theorem bit_or1 (i0 i1 i2 i3 : Bool) : Go.bits .or .u8 (msk i0 i1 i2 i3 4) 2 = msk i0 true i2 i3 4 := by cases i0 <;> cases i1 <;> cases i2 <;> cases i3 <;> decide
theorem bit_not1 (i0 i1 i2 i3 : Bool) : Go.bits .andNot .u8 (msk i0 i1 i2 i3 4) 2 = msk i0 false i2 i3 4 := by cases i0 <;> cases i1 <;> cases i2 <;> cases i3 <;> decide
theorem bit_and2 (i0 i1 i2 i3 : Bool) : Go.bits .and .u8 (msk i0 i1 i2 i3 4) 4 = if i2 then 4 else 0 := by cases i0 <;> cases i1 <;> cases i2 <;> cases i3 <;> decide
theorem bit_or2 (i0 i1 i2 i3 : Bool) : Go.bits .or .u8 (msk i0 i1 i2 i3 4) 4 = msk i0 i1 true i3 4 := by cases i0 <;> cases i1 <;> cases i2 <;> cases i3 <;> decide
theorem bit_not2 (i0 i1 i2 i3 : Bool) : Go.bits .andNot .u8 (msk i0 i1 i2 i3 4) 4 = msk i0 i1 false i3 4 := by cases i0 <;> cases i1 <;> cases i2 <;> cases i3 <;> decide
theorem bit_and3 (i0 i1 i2 i3 : Bool) : Go.bits .and .u8 (msk i0 i1 i2 i3 4) 8 = if i3 then 8 else 0 := by cases i0 <;> cases i1 <;> cases i2 <;> cases i3 <;> decide
theorem bit_or3 (i0 i1 i2 i3 : Bool) : Go.bits .or .u8 (msk i0 i1 i2 i3 4) 8 = msk i0 i1 i2 true 4 := by cases i0 <;> cases i1 <;> cases i2 <;> cases i3 <;> decide
theorem bit_not3 (i0 i1 i2 i3 : Bool) : Go.bits .andNot .u8 (msk i0 i1 i2 i3 4) 8 = msk i0 i1 i2 false 4 := by cases i0 <;> cases i1 <;> cases i2 <;> cases i3 <;> decide
set_option maxRecDepth 100000 in
set_option maxHeartbeats 8000000 in
theorem LedgerWorst_walk (a0 : Option Addr) (c0 : Nat) (z0 : List Int) (w : World) (h0 : IsInts .u8 w a0 c0 z0) :
    Calls Try.prog 4 #[.slice a0 z0.length c0] w fun e w' => e = .returned (.bool true) ∧ Below w.heap.size w w' := by
  have hle := h0.le
  have hsm := h0.small
  by_cases hlen : z0.length > 60
  · go_enter Try.func4, Try.ntmps4
    go_wp2_with (go_at_call 5; (with_reducible refine (known_calls _).mono ?_); rintro e w1 ⟨rfl, f1⟩)
    go_ret
    exact ⟨rfl, f1⟩
  go_enter Try.func4, Try.ntmps4
  go_wp2_with (first
      | (go_at_call 5; (with_reducible refine (known_calls _).mono ?_); rintro e w1 ⟨rfl, f1⟩)
      | (go_at_call 6; (with_reducible refine (LNew_calls _).mono ?_); rintro e w2 ⟨b, hb0, rfl, h2, f2⟩))
  have hb : w.heap.size ≤ b := Nat.le_trans f1.size hb0
  have f4 := below_frm0 f1 f2
  clear f1 f2 hb0
  go_loopw [4, 5, 6, 7] (fun m me wo i wr => ∃ (k : Nat) (s : Lg), k ≤ z0.length ∧ i = .int .i64 k ∧ m = .int .u8 (msk s.i0 s.i1 s.i2 s.i3 4) ∧ me = .int .u8 (msk s.e0 s.e1 s.e2 s.e3 4) ∧ wo = .int .i64 s.worst ∧
    IsLg wr b s ∧ Sound s ∧ Below w.heap.size w wr) (fun _ _ _ i _ => z0.length - (intOf i).toNat)
  case atStart => exact ⟨0, lgNew, by omega, rfl, rfl, rfl, rfl, h2, ⟨fun h => h, fun h => h, fun h => h, fun h => h, by decide, by decide, by decide⟩, f4⟩
  case round =>
    clear h2 f4
    obtain ⟨k, s, hk, rfl, rfl, rfl, rfl, hs, hg, hf⟩ := hrel
    have HS := hid hs; clear hs
    have HF := hid hf; clear hf
    by_cases hlt : k < z0.length
    · obtain ⟨ba, off, rfl, hba, hc⟩ := h0.at_ (by omega)
      have hck : wr.cell? ⟨ba, off + k, none⟩ = some (.int .u8 (z0.getD k 0)) := by rw [HF.out.cell (p := ⟨ba, off + k, none⟩) hba]; exact hc k hlt
      have hwf := bounds_u8 (h0.wf _ (getD_mem hlt))
      clear hc h0
      generalize z0.getD k 0 = x at *
      have hnb : ba ≠ b := by omega
      obtain ⟨i0, i1, i2, i3, e0, e1, e2, e3, wo⟩ := s
      obtain ⟨u0, u1, u2, u3, gl, gw0, gw4⟩ := hg
      dsimp only at *
      have hx4 : x % 4 = 0 ∨ x % 4 = 1 ∨ x % 4 = 2 ∨ x % 4 = 3 := by omega
      by_cases h128 : x < 128
      · rcases hx4 with hx | hx | hx | hx
        · cases i0
          · have R1 : Hid (Lg.begins ⟨false, i1, i2, i3, e0, e1, e2, e3, wo⟩ 0 = true) := rfl
            have R2 : Hid (Lg.begun ⟨false, i1, i2, i3, e0, e1, e2, e3, wo⟩ 0 = ⟨true, i1, i2, i3, true, e1, e2, e3, max wo (cnt true i1 i2 i3 4)⟩) := rfl
            have a1 : Go.bits .and .u8 (msk false i1 i2 i3 4) 1 = 0 := bit_and0 false i1 i2 i3
            have a2 : Go.bits .or .u8 (msk false i1 i2 i3 4) 1 = msk true i1 i2 i3 4 := bit_or0 false i1 i2 i3
            have a3 : Go.bits .or .u8 (msk e0 e1 e2 e3 4) 1 = msk true e1 e2 e3 4 := bit_or0 e0 e1 e2 e3
            obtain ⟨q0, q1, q2, q3⟩ := bit_c true i1 i2 i3
            have LN := hid (len_sum ⟨true, i1, i2, i3, true, e1, e2, e3, max wo (cnt true i1 i2 i3 4)⟩)
            have ls0 := len_sum ⟨false, i1, i2, i3, e0, e1, e2, e3, wo⟩
            have ls := len_sum ⟨true, i1, i2, i3, true, e1, e2, e3, max wo (cnt true i1 i2 i3 4)⟩
            dsimp only at ls ls0 LN
            have hlen2 : Lg.len ⟨true, i1, i2, i3, true, e1, e2, e3, max wo (cnt true i1 i2 i3 4)⟩ = cnt true i1 i2 i3 4 := rfl
            have d1 := bit_bd i1
            have d2 := bit_bd i2
            have d3 := bit_bd i3
            simp only [if_true, if_false, Bool.false_eq_true, ↓reduceIte] at q0 q1 q2 q3 LN ls ls0
            generalize (if i1 = true then (1 : Int) else 0) = y1 at *
            generalize (if i2 = true then (1 : Int) else 0) = y2 at *
            generalize (if i3 = true then (1 : Int) else 0) = y3 at *
            rw [hlen2] at ls LN
            clear hlen2
            have mx : (if wo < 1 + y1 + y2 + y3 then 1 + y1 + y2 + y3 else wo) = max wo (cnt true i1 i2 i3 4) := by split <;> omega
            have SN : Hid (Sound ⟨true, i1, i2, i3, true, e1, e2, e3, max wo (cnt true i1 i2 i3 4)⟩) := ⟨fun _ => rfl, u1, u2, u3, by show cnt true i1 i2 i3 4 ≤ max wo (cnt true i1 i2 i3 4); omega, by show 0 ≤ max wo (cnt true i1 i2 i3 4); omega, by show max wo (cnt true i1 i2 i3 4) ≤ 4; omega⟩
            clear u0 u1 u2 u3 gl ls ls0
            have LN2 : Hid (Lg.len ⟨true, i1, i2, i3, true, e1, e2, e3, max wo (cnt true i1 i2 i3 4)⟩ = 1 + y1 + y2 + y3) := LN
            clear LN
            go_wp2_with (first
              | (go_at_call 9; (with_reducible refine (Begin_calls b _ _ HS.out 0 (by decide)).mono ?_); rintro e w' ⟨rfl, h', f'⟩; rw [R1.out]; rw [R2.out] at h'; have hck' : w'.cell? ⟨ba, off + k, none⟩ = some (.int .u8 x) := ((f'.cell (p := ⟨ba, off + k, none⟩) (World.block_lt_of_cell? _ _ hck) hnb).trans hck); have nf_ := hid (below_frm1 HF.out f' hb); clear HF f' HS; have HF := nf_; clear nf_; have HS := hid h'; clear h')
              | (go_at_call 15; (with_reducible refine (Mask_calls b _ _ HS.out).mono ?_); rintro e w' ⟨rfl, f'⟩; have n0_ := hid (HS.out.frm f' (fun h => h)); have nf_ := hid (below_frm0 HF.out f'); clear HF f' HS; have HF := nf_; clear nf_; have HS := n0_; clear n0_)
              | (go_at_call 17; (with_reducible refine (Ever_calls b _ _ HS.out).mono ?_); rintro e w' ⟨rfl, f'⟩; have n0_ := hid (HS.out.frm f' (fun h => h)); have nf_ := hid (below_frm0 HF.out f'); clear HF f' HS; have HF := nf_; clear nf_; have HS := n0_; clear n0_)
              | (go_at_call 12; (with_reducible refine (Len_calls b _ _ HS.out).mono ?_); rintro e w' ⟨rfl, rfl⟩; rw [LN2.out])
              | (go_at_call 14; (with_reducible refine (Worst_calls b _ _ HS.out).mono ?_); rintro e w' ⟨rfl, rfl⟩))
            go_roundw
            case rel => exact ⟨k + 1, ⟨true, i1, i2, i3, true, e1, e2, e3, max wo (cnt true i1 i2 i3 4)⟩, by omega, by go_num, rfl, rfl, rfl, HS.out, SN.out, HF.out⟩
            case measure => simp [intOf]; omega
          · obtain rfl : e0 = true := u0 rfl
            have R1 : Hid (Lg.begins ⟨true, i1, i2, i3, true, e1, e2, e3, wo⟩ 0 = false) := rfl
            have R2 : Hid (Lg.begun ⟨true, i1, i2, i3, true, e1, e2, e3, wo⟩ 0 = ⟨true, i1, i2, i3, true, e1, e2, e3, wo⟩) := rfl
            have a1 : Go.bits .and .u8 (msk true i1 i2 i3 4) 1 = 1 := bit_and0 true i1 i2 i3
            have a2 : Go.bits .or .u8 (msk true i1 i2 i3 4) 1 = msk true i1 i2 i3 4 := bit_or0 true i1 i2 i3
            have a3 : Go.bits .or .u8 (msk true e1 e2 e3 4) 1 = msk true e1 e2 e3 4 := bit_or0 true e1 e2 e3
            obtain ⟨q0, q1, q2, q3⟩ := bit_c true i1 i2 i3
            have LN := hid (len_sum ⟨true, i1, i2, i3, true, e1, e2, e3, wo⟩)
            have ls0 := len_sum ⟨true, i1, i2, i3, true, e1, e2, e3, wo⟩
            have ls := len_sum ⟨true, i1, i2, i3, true, e1, e2, e3, wo⟩
            dsimp only at ls ls0 LN
            have hlen2 : Lg.len ⟨true, i1, i2, i3, true, e1, e2, e3, wo⟩ = cnt true i1 i2 i3 4 := rfl
            have d1 := bit_bd i1
            have d2 := bit_bd i2
            have d3 := bit_bd i3
            simp only [if_true, if_false, Bool.false_eq_true, ↓reduceIte] at q0 q1 q2 q3 LN ls ls0
            generalize (if i1 = true then (1 : Int) else 0) = y1 at *
            generalize (if i2 = true then (1 : Int) else 0) = y2 at *
            generalize (if i3 = true then (1 : Int) else 0) = y3 at *
            rw [hlen2] at ls LN
            clear hlen2
            have mx : (if wo < 1 + y1 + y2 + y3 then 1 + y1 + y2 + y3 else wo) = wo := by split <;> omega
            have SN : Hid (Sound ⟨true, i1, i2, i3, true, e1, e2, e3, wo⟩) := ⟨fun _ => rfl, u1, u2, u3, by show cnt true i1 i2 i3 4 ≤ wo; omega, by show 0 ≤ wo; omega, by show wo ≤ 4; omega⟩
            clear u0 u1 u2 u3 gl ls ls0
            have LN2 : Hid (Lg.len ⟨true, i1, i2, i3, true, e1, e2, e3, wo⟩ = 1 + y1 + y2 + y3) := LN
            clear LN
            go_wp2_with (first
              | (go_at_call 9; (with_reducible refine (Begin_calls b _ _ HS.out 0 (by decide)).mono ?_); rintro e w' ⟨rfl, h', f'⟩; rw [R1.out]; rw [R2.out] at h'; have hck' : w'.cell? ⟨ba, off + k, none⟩ = some (.int .u8 x) := ((f'.cell (p := ⟨ba, off + k, none⟩) (World.block_lt_of_cell? _ _ hck) hnb).trans hck); have nf_ := hid (below_frm1 HF.out f' hb); clear HF f' HS; have HF := nf_; clear nf_; have HS := hid h'; clear h')
              | (go_at_call 15; (with_reducible refine (Mask_calls b _ _ HS.out).mono ?_); rintro e w' ⟨rfl, f'⟩; have n0_ := hid (HS.out.frm f' (fun h => h)); have nf_ := hid (below_frm0 HF.out f'); clear HF f' HS; have HF := nf_; clear nf_; have HS := n0_; clear n0_)
              | (go_at_call 17; (with_reducible refine (Ever_calls b _ _ HS.out).mono ?_); rintro e w' ⟨rfl, f'⟩; have n0_ := hid (HS.out.frm f' (fun h => h)); have nf_ := hid (below_frm0 HF.out f'); clear HF f' HS; have HF := nf_; clear nf_; have HS := n0_; clear n0_)
              | (go_at_call 12; (with_reducible refine (Len_calls b _ _ HS.out).mono ?_); rintro e w' ⟨rfl, rfl⟩; rw [LN2.out])
              | (go_at_call 14; (with_reducible refine (Worst_calls b _ _ HS.out).mono ?_); rintro e w' ⟨rfl, rfl⟩))
            go_roundw
            case rel => exact ⟨k + 1, ⟨true, i1, i2, i3, true, e1, e2, e3, wo⟩, by omega, by go_num, rfl, rfl, rfl, HS.out, SN.out, HF.out⟩
            case measure => simp [intOf]; omega
        · cases i1
          · have R1 : Hid (Lg.begins ⟨i0, false, i2, i3, e0, e1, e2, e3, wo⟩ 1 = true) := rfl
            have R2 : Hid (Lg.begun ⟨i0, false, i2, i3, e0, e1, e2, e3, wo⟩ 1 = ⟨i0, true, i2, i3, e0, true, e2, e3, max wo (cnt i0 true i2 i3 4)⟩) := rfl
            have a1 : Go.bits .and .u8 (msk i0 false i2 i3 4) 2 = 0 := bit_and1 i0 false i2 i3
            have a2 : Go.bits .or .u8 (msk i0 false i2 i3 4) 2 = msk i0 true i2 i3 4 := bit_or1 i0 false i2 i3
            have a3 : Go.bits .or .u8 (msk e0 e1 e2 e3 4) 2 = msk e0 true e2 e3 4 := bit_or1 e0 e1 e2 e3
            obtain ⟨q0, q1, q2, q3⟩ := bit_c i0 true i2 i3
            have LN := hid (len_sum ⟨i0, true, i2, i3, e0, true, e2, e3, max wo (cnt i0 true i2 i3 4)⟩)
            have ls0 := len_sum ⟨i0, false, i2, i3, e0, e1, e2, e3, wo⟩
            have ls := len_sum ⟨i0, true, i2, i3, e0, true, e2, e3, max wo (cnt i0 true i2 i3 4)⟩
            dsimp only at ls ls0 LN
            have hlen2 : Lg.len ⟨i0, true, i2, i3, e0, true, e2, e3, max wo (cnt i0 true i2 i3 4)⟩ = cnt i0 true i2 i3 4 := rfl
            have d0 := bit_bd i0
            have d2 := bit_bd i2
            have d3 := bit_bd i3
            simp only [if_true, if_false, Bool.false_eq_true, ↓reduceIte] at q0 q1 q2 q3 LN ls ls0
            generalize (if i0 = true then (1 : Int) else 0) = y0 at *
            generalize (if i2 = true then (1 : Int) else 0) = y2 at *
            generalize (if i3 = true then (1 : Int) else 0) = y3 at *
            rw [hlen2] at ls LN
            clear hlen2
            have mx : (if wo < y0 + 1 + y2 + y3 then y0 + 1 + y2 + y3 else wo) = max wo (cnt i0 true i2 i3 4) := by split <;> omega
            have SN : Hid (Sound ⟨i0, true, i2, i3, e0, true, e2, e3, max wo (cnt i0 true i2 i3 4)⟩) := ⟨u0, fun _ => rfl, u2, u3, by show cnt i0 true i2 i3 4 ≤ max wo (cnt i0 true i2 i3 4); omega, by show 0 ≤ max wo (cnt i0 true i2 i3 4); omega, by show max wo (cnt i0 true i2 i3 4) ≤ 4; omega⟩
            clear u0 u1 u2 u3 gl ls ls0
            have LN2 : Hid (Lg.len ⟨i0, true, i2, i3, e0, true, e2, e3, max wo (cnt i0 true i2 i3 4)⟩ = y0 + 1 + y2 + y3) := LN
            clear LN
            go_wp2_with (first
              | (go_at_call 9; (with_reducible refine (Begin_calls b _ _ HS.out 1 (by decide)).mono ?_); rintro e w' ⟨rfl, h', f'⟩; rw [R1.out]; rw [R2.out] at h'; have hck' : w'.cell? ⟨ba, off + k, none⟩ = some (.int .u8 x) := ((f'.cell (p := ⟨ba, off + k, none⟩) (World.block_lt_of_cell? _ _ hck) hnb).trans hck); have nf_ := hid (below_frm1 HF.out f' hb); clear HF f' HS; have HF := nf_; clear nf_; have HS := hid h'; clear h')
              | (go_at_call 15; (with_reducible refine (Mask_calls b _ _ HS.out).mono ?_); rintro e w' ⟨rfl, f'⟩; have n0_ := hid (HS.out.frm f' (fun h => h)); have nf_ := hid (below_frm0 HF.out f'); clear HF f' HS; have HF := nf_; clear nf_; have HS := n0_; clear n0_)
              | (go_at_call 17; (with_reducible refine (Ever_calls b _ _ HS.out).mono ?_); rintro e w' ⟨rfl, f'⟩; have n0_ := hid (HS.out.frm f' (fun h => h)); have nf_ := hid (below_frm0 HF.out f'); clear HF f' HS; have HF := nf_; clear nf_; have HS := n0_; clear n0_)
              | (go_at_call 12; (with_reducible refine (Len_calls b _ _ HS.out).mono ?_); rintro e w' ⟨rfl, rfl⟩; rw [LN2.out])
              | (go_at_call 14; (with_reducible refine (Worst_calls b _ _ HS.out).mono ?_); rintro e w' ⟨rfl, rfl⟩))
            go_roundw
            case rel => exact ⟨k + 1, ⟨i0, true, i2, i3, e0, true, e2, e3, max wo (cnt i0 true i2 i3 4)⟩, by omega, by go_num, rfl, rfl, rfl, HS.out, SN.out, HF.out⟩
            case measure => simp [intOf]; omega
          · obtain rfl : e1 = true := u1 rfl
            have R1 : Hid (Lg.begins ⟨i0, true, i2, i3, e0, true, e2, e3, wo⟩ 1 = false) := rfl
            have R2 : Hid (Lg.begun ⟨i0, true, i2, i3, e0, true, e2, e3, wo⟩ 1 = ⟨i0, true, i2, i3, e0, true, e2, e3, wo⟩) := rfl
            have a1 : Go.bits .and .u8 (msk i0 true i2 i3 4) 2 = 2 := bit_and1 i0 true i2 i3
            have a2 : Go.bits .or .u8 (msk i0 true i2 i3 4) 2 = msk i0 true i2 i3 4 := bit_or1 i0 true i2 i3
            have a3 : Go.bits .or .u8 (msk e0 true e2 e3 4) 2 = msk e0 true e2 e3 4 := bit_or1 e0 true e2 e3
            obtain ⟨q0, q1, q2, q3⟩ := bit_c i0 true i2 i3
            have LN := hid (len_sum ⟨i0, true, i2, i3, e0, true, e2, e3, wo⟩)
            have ls0 := len_sum ⟨i0, true, i2, i3, e0, true, e2, e3, wo⟩
            have ls := len_sum ⟨i0, true, i2, i3, e0, true, e2, e3, wo⟩
            dsimp only at ls ls0 LN
            have hlen2 : Lg.len ⟨i0, true, i2, i3, e0, true, e2, e3, wo⟩ = cnt i0 true i2 i3 4 := rfl
            have d0 := bit_bd i0
            have d2 := bit_bd i2
            have d3 := bit_bd i3
            simp only [if_true, if_false, Bool.false_eq_true, ↓reduceIte] at q0 q1 q2 q3 LN ls ls0
            generalize (if i0 = true then (1 : Int) else 0) = y0 at *
            generalize (if i2 = true then (1 : Int) else 0) = y2 at *
            generalize (if i3 = true then (1 : Int) else 0) = y3 at *
            rw [hlen2] at ls LN
            clear hlen2
            have mx : (if wo < y0 + 1 + y2 + y3 then y0 + 1 + y2 + y3 else wo) = wo := by split <;> omega
            have SN : Hid (Sound ⟨i0, true, i2, i3, e0, true, e2, e3, wo⟩) := ⟨u0, fun _ => rfl, u2, u3, by show cnt i0 true i2 i3 4 ≤ wo; omega, by show 0 ≤ wo; omega, by show wo ≤ 4; omega⟩
            clear u0 u1 u2 u3 gl ls ls0
            have LN2 : Hid (Lg.len ⟨i0, true, i2, i3, e0, true, e2, e3, wo⟩ = y0 + 1 + y2 + y3) := LN
            clear LN
            go_wp2_with (first
              | (go_at_call 9; (with_reducible refine (Begin_calls b _ _ HS.out 1 (by decide)).mono ?_); rintro e w' ⟨rfl, h', f'⟩; rw [R1.out]; rw [R2.out] at h'; have hck' : w'.cell? ⟨ba, off + k, none⟩ = some (.int .u8 x) := ((f'.cell (p := ⟨ba, off + k, none⟩) (World.block_lt_of_cell? _ _ hck) hnb).trans hck); have nf_ := hid (below_frm1 HF.out f' hb); clear HF f' HS; have HF := nf_; clear nf_; have HS := hid h'; clear h')
              | (go_at_call 15; (with_reducible refine (Mask_calls b _ _ HS.out).mono ?_); rintro e w' ⟨rfl, f'⟩; have n0_ := hid (HS.out.frm f' (fun h => h)); have nf_ := hid (below_frm0 HF.out f'); clear HF f' HS; have HF := nf_; clear nf_; have HS := n0_; clear n0_)
              | (go_at_call 17; (with_reducible refine (Ever_calls b _ _ HS.out).mono ?_); rintro e w' ⟨rfl, f'⟩; have n0_ := hid (HS.out.frm f' (fun h => h)); have nf_ := hid (below_frm0 HF.out f'); clear HF f' HS; have HF := nf_; clear nf_; have HS := n0_; clear n0_)
              | (go_at_call 12; (with_reducible refine (Len_calls b _ _ HS.out).mono ?_); rintro e w' ⟨rfl, rfl⟩; rw [LN2.out])
              | (go_at_call 14; (with_reducible refine (Worst_calls b _ _ HS.out).mono ?_); rintro e w' ⟨rfl, rfl⟩))
            go_roundw
            case rel => exact ⟨k + 1, ⟨i0, true, i2, i3, e0, true, e2, e3, wo⟩, by omega, by go_num, rfl, rfl, rfl, HS.out, SN.out, HF.out⟩
            case measure => simp [intOf]; omega
        · cases i2
          · have R1 : Hid (Lg.begins ⟨i0, i1, false, i3, e0, e1, e2, e3, wo⟩ 2 = true) := rfl
            have R2 : Hid (Lg.begun ⟨i0, i1, false, i3, e0, e1, e2, e3, wo⟩ 2 = ⟨i0, i1, true, i3, e0, e1, true, e3, max wo (cnt i0 i1 true i3 4)⟩) := rfl
            have a1 : Go.bits .and .u8 (msk i0 i1 false i3 4) 4 = 0 := bit_and2 i0 i1 false i3
            have a2 : Go.bits .or .u8 (msk i0 i1 false i3 4) 4 = msk i0 i1 true i3 4 := bit_or2 i0 i1 false i3
            have a3 : Go.bits .or .u8 (msk e0 e1 e2 e3 4) 4 = msk e0 e1 true e3 4 := bit_or2 e0 e1 e2 e3
            obtain ⟨q0, q1, q2, q3⟩ := bit_c i0 i1 true i3
            have LN := hid (len_sum ⟨i0, i1, true, i3, e0, e1, true, e3, max wo (cnt i0 i1 true i3 4)⟩)
            have ls0 := len_sum ⟨i0, i1, false, i3, e0, e1, e2, e3, wo⟩
            have ls := len_sum ⟨i0, i1, true, i3, e0, e1, true, e3, max wo (cnt i0 i1 true i3 4)⟩
            dsimp only at ls ls0 LN
            have hlen2 : Lg.len ⟨i0, i1, true, i3, e0, e1, true, e3, max wo (cnt i0 i1 true i3 4)⟩ = cnt i0 i1 true i3 4 := rfl
            have d0 := bit_bd i0
            have d1 := bit_bd i1
            have d3 := bit_bd i3
            simp only [if_true, if_false, Bool.false_eq_true, ↓reduceIte] at q0 q1 q2 q3 LN ls ls0
            generalize (if i0 = true then (1 : Int) else 0) = y0 at *
            generalize (if i1 = true then (1 : Int) else 0) = y1 at *
            generalize (if i3 = true then (1 : Int) else 0) = y3 at *
            rw [hlen2] at ls LN
            clear hlen2
            have mx : (if wo < y0 + y1 + 1 + y3 then y0 + y1 + 1 + y3 else wo) = max wo (cnt i0 i1 true i3 4) := by split <;> omega
            have SN : Hid (Sound ⟨i0, i1, true, i3, e0, e1, true, e3, max wo (cnt i0 i1 true i3 4)⟩) := ⟨u0, u1, fun _ => rfl, u3, by show cnt i0 i1 true i3 4 ≤ max wo (cnt i0 i1 true i3 4); omega, by show 0 ≤ max wo (cnt i0 i1 true i3 4); omega, by show max wo (cnt i0 i1 true i3 4) ≤ 4; omega⟩
            clear u0 u1 u2 u3 gl ls ls0
            have LN2 : Hid (Lg.len ⟨i0, i1, true, i3, e0, e1, true, e3, max wo (cnt i0 i1 true i3 4)⟩ = y0 + y1 + 1 + y3) := LN
            clear LN
            go_wp2_with (first
              | (go_at_call 9; (with_reducible refine (Begin_calls b _ _ HS.out 2 (by decide)).mono ?_); rintro e w' ⟨rfl, h', f'⟩; rw [R1.out]; rw [R2.out] at h'; have hck' : w'.cell? ⟨ba, off + k, none⟩ = some (.int .u8 x) := ((f'.cell (p := ⟨ba, off + k, none⟩) (World.block_lt_of_cell? _ _ hck) hnb).trans hck); have nf_ := hid (below_frm1 HF.out f' hb); clear HF f' HS; have HF := nf_; clear nf_; have HS := hid h'; clear h')
              | (go_at_call 15; (with_reducible refine (Mask_calls b _ _ HS.out).mono ?_); rintro e w' ⟨rfl, f'⟩; have n0_ := hid (HS.out.frm f' (fun h => h)); have nf_ := hid (below_frm0 HF.out f'); clear HF f' HS; have HF := nf_; clear nf_; have HS := n0_; clear n0_)
              | (go_at_call 17; (with_reducible refine (Ever_calls b _ _ HS.out).mono ?_); rintro e w' ⟨rfl, f'⟩; have n0_ := hid (HS.out.frm f' (fun h => h)); have nf_ := hid (below_frm0 HF.out f'); clear HF f' HS; have HF := nf_; clear nf_; have HS := n0_; clear n0_)
              | (go_at_call 12; (with_reducible refine (Len_calls b _ _ HS.out).mono ?_); rintro e w' ⟨rfl, rfl⟩; rw [LN2.out])
              | (go_at_call 14; (with_reducible refine (Worst_calls b _ _ HS.out).mono ?_); rintro e w' ⟨rfl, rfl⟩))
            go_roundw
            case rel => exact ⟨k + 1, ⟨i0, i1, true, i3, e0, e1, true, e3, max wo (cnt i0 i1 true i3 4)⟩, by omega, by go_num, rfl, rfl, rfl, HS.out, SN.out, HF.out⟩
            case measure => simp [intOf]; omega
          · obtain rfl : e2 = true := u2 rfl
            have R1 : Hid (Lg.begins ⟨i0, i1, true, i3, e0, e1, true, e3, wo⟩ 2 = false) := rfl
            have R2 : Hid (Lg.begun ⟨i0, i1, true, i3, e0, e1, true, e3, wo⟩ 2 = ⟨i0, i1, true, i3, e0, e1, true, e3, wo⟩) := rfl
            have a1 : Go.bits .and .u8 (msk i0 i1 true i3 4) 4 = 4 := bit_and2 i0 i1 true i3
            have a2 : Go.bits .or .u8 (msk i0 i1 true i3 4) 4 = msk i0 i1 true i3 4 := bit_or2 i0 i1 true i3
            have a3 : Go.bits .or .u8 (msk e0 e1 true e3 4) 4 = msk e0 e1 true e3 4 := bit_or2 e0 e1 true e3
            obtain ⟨q0, q1, q2, q3⟩ := bit_c i0 i1 true i3
            have LN := hid (len_sum ⟨i0, i1, true, i3, e0, e1, true, e3, wo⟩)
            have ls0 := len_sum ⟨i0, i1, true, i3, e0, e1, true, e3, wo⟩
            have ls := len_sum ⟨i0, i1, true, i3, e0, e1, true, e3, wo⟩
            dsimp only at ls ls0 LN
            have hlen2 : Lg.len ⟨i0, i1, true, i3, e0, e1, true, e3, wo⟩ = cnt i0 i1 true i3 4 := rfl
            have d0 := bit_bd i0
            have d1 := bit_bd i1
            have d3 := bit_bd i3
            simp only [if_true, if_false, Bool.false_eq_true, ↓reduceIte] at q0 q1 q2 q3 LN ls ls0
            generalize (if i0 = true then (1 : Int) else 0) = y0 at *
            generalize (if i1 = true then (1 : Int) else 0) = y1 at *
            generalize (if i3 = true then (1 : Int) else 0) = y3 at *
            rw [hlen2] at ls LN
            clear hlen2
            have mx : (if wo < y0 + y1 + 1 + y3 then y0 + y1 + 1 + y3 else wo) = wo := by split <;> omega
            have SN : Hid (Sound ⟨i0, i1, true, i3, e0, e1, true, e3, wo⟩) := ⟨u0, u1, fun _ => rfl, u3, by show cnt i0 i1 true i3 4 ≤ wo; omega, by show 0 ≤ wo; omega, by show wo ≤ 4; omega⟩
            clear u0 u1 u2 u3 gl ls ls0
            have LN2 : Hid (Lg.len ⟨i0, i1, true, i3, e0, e1, true, e3, wo⟩ = y0 + y1 + 1 + y3) := LN
            clear LN
            go_wp2_with (first
              | (go_at_call 9; (with_reducible refine (Begin_calls b _ _ HS.out 2 (by decide)).mono ?_); rintro e w' ⟨rfl, h', f'⟩; rw [R1.out]; rw [R2.out] at h'; have hck' : w'.cell? ⟨ba, off + k, none⟩ = some (.int .u8 x) := ((f'.cell (p := ⟨ba, off + k, none⟩) (World.block_lt_of_cell? _ _ hck) hnb).trans hck); have nf_ := hid (below_frm1 HF.out f' hb); clear HF f' HS; have HF := nf_; clear nf_; have HS := hid h'; clear h')
              | (go_at_call 15; (with_reducible refine (Mask_calls b _ _ HS.out).mono ?_); rintro e w' ⟨rfl, f'⟩; have n0_ := hid (HS.out.frm f' (fun h => h)); have nf_ := hid (below_frm0 HF.out f'); clear HF f' HS; have HF := nf_; clear nf_; have HS := n0_; clear n0_)
              | (go_at_call 17; (with_reducible refine (Ever_calls b _ _ HS.out).mono ?_); rintro e w' ⟨rfl, f'⟩; have n0_ := hid (HS.out.frm f' (fun h => h)); have nf_ := hid (below_frm0 HF.out f'); clear HF f' HS; have HF := nf_; clear nf_; have HS := n0_; clear n0_)
              | (go_at_call 12; (with_reducible refine (Len_calls b _ _ HS.out).mono ?_); rintro e w' ⟨rfl, rfl⟩; rw [LN2.out])
              | (go_at_call 14; (with_reducible refine (Worst_calls b _ _ HS.out).mono ?_); rintro e w' ⟨rfl, rfl⟩))
            go_roundw
            case rel => exact ⟨k + 1, ⟨i0, i1, true, i3, e0, e1, true, e3, wo⟩, by omega, by go_num, rfl, rfl, rfl, HS.out, SN.out, HF.out⟩
            case measure => simp [intOf]; omega
        · cases i3
          · have R1 : Hid (Lg.begins ⟨i0, i1, i2, false, e0, e1, e2, e3, wo⟩ 3 = true) := rfl
            have R2 : Hid (Lg.begun ⟨i0, i1, i2, false, e0, e1, e2, e3, wo⟩ 3 = ⟨i0, i1, i2, true, e0, e1, e2, true, max wo (cnt i0 i1 i2 true 4)⟩) := rfl
            have a1 : Go.bits .and .u8 (msk i0 i1 i2 false 4) 8 = 0 := bit_and3 i0 i1 i2 false
            have a2 : Go.bits .or .u8 (msk i0 i1 i2 false 4) 8 = msk i0 i1 i2 true 4 := bit_or3 i0 i1 i2 false
            have a3 : Go.bits .or .u8 (msk e0 e1 e2 e3 4) 8 = msk e0 e1 e2 true 4 := bit_or3 e0 e1 e2 e3
            obtain ⟨q0, q1, q2, q3⟩ := bit_c i0 i1 i2 true
            have LN := hid (len_sum ⟨i0, i1, i2, true, e0, e1, e2, true, max wo (cnt i0 i1 i2 true 4)⟩)
            have ls0 := len_sum ⟨i0, i1, i2, false, e0, e1, e2, e3, wo⟩
            have ls := len_sum ⟨i0, i1, i2, true, e0, e1, e2, true, max wo (cnt i0 i1 i2 true 4)⟩
            dsimp only at ls ls0 LN
            have hlen2 : Lg.len ⟨i0, i1, i2, true, e0, e1, e2, true, max wo (cnt i0 i1 i2 true 4)⟩ = cnt i0 i1 i2 true 4 := rfl
            have d0 := bit_bd i0
            have d1 := bit_bd i1
            have d2 := bit_bd i2
            simp only [if_true, if_false, Bool.false_eq_true, ↓reduceIte] at q0 q1 q2 q3 LN ls ls0
            generalize (if i0 = true then (1 : Int) else 0) = y0 at *
            generalize (if i1 = true then (1 : Int) else 0) = y1 at *
            generalize (if i2 = true then (1 : Int) else 0) = y2 at *
            rw [hlen2] at ls LN
            clear hlen2
            have mx : (if wo < y0 + y1 + y2 + 1 then y0 + y1 + y2 + 1 else wo) = max wo (cnt i0 i1 i2 true 4) := by split <;> omega
            have SN : Hid (Sound ⟨i0, i1, i2, true, e0, e1, e2, true, max wo (cnt i0 i1 i2 true 4)⟩) := ⟨u0, u1, u2, fun _ => rfl, by show cnt i0 i1 i2 true 4 ≤ max wo (cnt i0 i1 i2 true 4); omega, by show 0 ≤ max wo (cnt i0 i1 i2 true 4); omega, by show max wo (cnt i0 i1 i2 true 4) ≤ 4; omega⟩
            clear u0 u1 u2 u3 gl ls ls0
            have LN2 : Hid (Lg.len ⟨i0, i1, i2, true, e0, e1, e2, true, max wo (cnt i0 i1 i2 true 4)⟩ = y0 + y1 + y2 + 1) := LN
            clear LN
            go_wp2_with (first
              | (go_at_call 9; (with_reducible refine (Begin_calls b _ _ HS.out 3 (by decide)).mono ?_); rintro e w' ⟨rfl, h', f'⟩; rw [R1.out]; rw [R2.out] at h'; have hck' : w'.cell? ⟨ba, off + k, none⟩ = some (.int .u8 x) := ((f'.cell (p := ⟨ba, off + k, none⟩) (World.block_lt_of_cell? _ _ hck) hnb).trans hck); have nf_ := hid (below_frm1 HF.out f' hb); clear HF f' HS; have HF := nf_; clear nf_; have HS := hid h'; clear h')
              | (go_at_call 15; (with_reducible refine (Mask_calls b _ _ HS.out).mono ?_); rintro e w' ⟨rfl, f'⟩; have n0_ := hid (HS.out.frm f' (fun h => h)); have nf_ := hid (below_frm0 HF.out f'); clear HF f' HS; have HF := nf_; clear nf_; have HS := n0_; clear n0_)
              | (go_at_call 17; (with_reducible refine (Ever_calls b _ _ HS.out).mono ?_); rintro e w' ⟨rfl, f'⟩; have n0_ := hid (HS.out.frm f' (fun h => h)); have nf_ := hid (below_frm0 HF.out f'); clear HF f' HS; have HF := nf_; clear nf_; have HS := n0_; clear n0_)
              | (go_at_call 12; (with_reducible refine (Len_calls b _ _ HS.out).mono ?_); rintro e w' ⟨rfl, rfl⟩; rw [LN2.out])
              | (go_at_call 14; (with_reducible refine (Worst_calls b _ _ HS.out).mono ?_); rintro e w' ⟨rfl, rfl⟩))
            go_roundw
            case rel => exact ⟨k + 1, ⟨i0, i1, i2, true, e0, e1, e2, true, max wo (cnt i0 i1 i2 true 4)⟩, by omega, by go_num, rfl, rfl, rfl, HS.out, SN.out, HF.out⟩
            case measure => simp [intOf]; omega
          · obtain rfl : e3 = true := u3 rfl
            have R1 : Hid (Lg.begins ⟨i0, i1, i2, true, e0, e1, e2, true, wo⟩ 3 = false) := rfl
            have R2 : Hid (Lg.begun ⟨i0, i1, i2, true, e0, e1, e2, true, wo⟩ 3 = ⟨i0, i1, i2, true, e0, e1, e2, true, wo⟩) := rfl
            have a1 : Go.bits .and .u8 (msk i0 i1 i2 true 4) 8 = 8 := bit_and3 i0 i1 i2 true
            have a2 : Go.bits .or .u8 (msk i0 i1 i2 true 4) 8 = msk i0 i1 i2 true 4 := bit_or3 i0 i1 i2 true
            have a3 : Go.bits .or .u8 (msk e0 e1 e2 true 4) 8 = msk e0 e1 e2 true 4 := bit_or3 e0 e1 e2 true
            obtain ⟨q0, q1, q2, q3⟩ := bit_c i0 i1 i2 true
            have LN := hid (len_sum ⟨i0, i1, i2, true, e0, e1, e2, true, wo⟩)
            have ls0 := len_sum ⟨i0, i1, i2, true, e0, e1, e2, true, wo⟩
            have ls := len_sum ⟨i0, i1, i2, true, e0, e1, e2, true, wo⟩
            dsimp only at ls ls0 LN
            have hlen2 : Lg.len ⟨i0, i1, i2, true, e0, e1, e2, true, wo⟩ = cnt i0 i1 i2 true 4 := rfl
            have d0 := bit_bd i0
            have d1 := bit_bd i1
            have d2 := bit_bd i2
            simp only [if_true, if_false, Bool.false_eq_true, ↓reduceIte] at q0 q1 q2 q3 LN ls ls0
            generalize (if i0 = true then (1 : Int) else 0) = y0 at *
            generalize (if i1 = true then (1 : Int) else 0) = y1 at *
            generalize (if i2 = true then (1 : Int) else 0) = y2 at *
            rw [hlen2] at ls LN
            clear hlen2
            have mx : (if wo < y0 + y1 + y2 + 1 then y0 + y1 + y2 + 1 else wo) = wo := by split <;> omega
            have SN : Hid (Sound ⟨i0, i1, i2, true, e0, e1, e2, true, wo⟩) := ⟨u0, u1, u2, fun _ => rfl, by show cnt i0 i1 i2 true 4 ≤ wo; omega, by show 0 ≤ wo; omega, by show wo ≤ 4; omega⟩
            clear u0 u1 u2 u3 gl ls ls0
            have LN2 : Hid (Lg.len ⟨i0, i1, i2, true, e0, e1, e2, true, wo⟩ = y0 + y1 + y2 + 1) := LN
            clear LN
            go_wp2_with (first
              | (go_at_call 9; (with_reducible refine (Begin_calls b _ _ HS.out 3 (by decide)).mono ?_); rintro e w' ⟨rfl, h', f'⟩; rw [R1.out]; rw [R2.out] at h'; have hck' : w'.cell? ⟨ba, off + k, none⟩ = some (.int .u8 x) := ((f'.cell (p := ⟨ba, off + k, none⟩) (World.block_lt_of_cell? _ _ hck) hnb).trans hck); have nf_ := hid (below_frm1 HF.out f' hb); clear HF f' HS; have HF := nf_; clear nf_; have HS := hid h'; clear h')
              | (go_at_call 15; (with_reducible refine (Mask_calls b _ _ HS.out).mono ?_); rintro e w' ⟨rfl, f'⟩; have n0_ := hid (HS.out.frm f' (fun h => h)); have nf_ := hid (below_frm0 HF.out f'); clear HF f' HS; have HF := nf_; clear nf_; have HS := n0_; clear n0_)
              | (go_at_call 17; (with_reducible refine (Ever_calls b _ _ HS.out).mono ?_); rintro e w' ⟨rfl, f'⟩; have n0_ := hid (HS.out.frm f' (fun h => h)); have nf_ := hid (below_frm0 HF.out f'); clear HF f' HS; have HF := nf_; clear nf_; have HS := n0_; clear n0_)
              | (go_at_call 12; (with_reducible refine (Len_calls b _ _ HS.out).mono ?_); rintro e w' ⟨rfl, rfl⟩; rw [LN2.out])
              | (go_at_call 14; (with_reducible refine (Worst_calls b _ _ HS.out).mono ?_); rintro e w' ⟨rfl, rfl⟩))
            go_roundw
            case rel => exact ⟨k + 1, ⟨i0, i1, i2, true, e0, e1, e2, true, wo⟩, by omega, by go_num, rfl, rfl, rfl, HS.out, SN.out, HF.out⟩
            case measure => simp [intOf]; omega
      · rcases hx4 with hx | hx | hx | hx
        · cases i0
          · have R1 : Hid (Lg.at_ ⟨false, i1, i2, i3, e0, e1, e2, e3, wo⟩ 0 = false) := rfl
            have R2 : Hid (Lg.ended ⟨false, i1, i2, i3, e0, e1, e2, e3, wo⟩ 0 = ⟨false, i1, i2, i3, e0, e1, e2, e3, wo⟩) := rfl
            have a1 : Go.bits .and .u8 (msk false i1 i2 i3 4) 1 = 0 := bit_and0 false i1 i2 i3
            have a2 : Go.bits .andNot .u8 (msk false i1 i2 i3 4) 1 = msk false i1 i2 i3 4 := bit_not0 false i1 i2 i3
            obtain ⟨q0, q1, q2, q3⟩ := bit_c false i1 i2 i3
            have LN := hid (len_sum ⟨false, i1, i2, i3, e0, e1, e2, e3, wo⟩)
            have ls0 := len_sum ⟨false, i1, i2, i3, e0, e1, e2, e3, wo⟩
            have ls := len_sum ⟨false, i1, i2, i3, e0, e1, e2, e3, wo⟩
            dsimp only at ls ls0 LN
            have hlen2 : Lg.len ⟨false, i1, i2, i3, e0, e1, e2, e3, wo⟩ = cnt false i1 i2 i3 4 := rfl
            have d1 := bit_bd i1
            have d2 := bit_bd i2
            have d3 := bit_bd i3
            simp only [if_true, if_false, Bool.false_eq_true, ↓reduceIte] at q0 q1 q2 q3 LN ls ls0
            generalize (if i1 = true then (1 : Int) else 0) = y1 at *
            generalize (if i2 = true then (1 : Int) else 0) = y2 at *
            generalize (if i3 = true then (1 : Int) else 0) = y3 at *
            rw [hlen2] at ls LN
            clear hlen2
            have mx : (if wo < 0 + y1 + y2 + y3 then 0 + y1 + y2 + y3 else wo) = wo := by split <;> omega
            have SN : Hid (Sound ⟨false, i1, i2, i3, e0, e1, e2, e3, wo⟩) := ⟨fun h => by simp at h, u1, u2, u3, by show cnt false i1 i2 i3 4 ≤ wo; omega, by show 0 ≤ wo; omega, by show wo ≤ 4; omega⟩
            clear u0 u1 u2 u3 gl ls ls0
            have LN2 : Hid (Lg.len ⟨false, i1, i2, i3, e0, e1, e2, e3, wo⟩ = 0 + y1 + y2 + y3) := LN
            clear LN
            go_wp2_with (first
              | (go_at_call 7; (with_reducible refine (End_calls b _ _ HS.out 0 (by decide)).mono ?_); rintro e w' ⟨rfl, h', f'⟩; rw [R1.out]; rw [R2.out] at h'; have hck' : w'.cell? ⟨ba, off + k, none⟩ = some (.int .u8 x) := ((f'.cell (p := ⟨ba, off + k, none⟩) (World.block_lt_of_cell? _ _ hck) hnb).trans hck); have nf_ := hid (below_frm1 HF.out f' hb); clear HF f' HS; have HF := nf_; clear nf_; have HS := hid h'; clear h')
              | (go_at_call 15; (with_reducible refine (Mask_calls b _ _ HS.out).mono ?_); rintro e w' ⟨rfl, f'⟩; have n0_ := hid (HS.out.frm f' (fun h => h)); have nf_ := hid (below_frm0 HF.out f'); clear HF f' HS; have HF := nf_; clear nf_; have HS := n0_; clear n0_)
              | (go_at_call 17; (with_reducible refine (Ever_calls b _ _ HS.out).mono ?_); rintro e w' ⟨rfl, f'⟩; have n0_ := hid (HS.out.frm f' (fun h => h)); have nf_ := hid (below_frm0 HF.out f'); clear HF f' HS; have HF := nf_; clear nf_; have HS := n0_; clear n0_)
              | (go_at_call 12; (with_reducible refine (Len_calls b _ _ HS.out).mono ?_); rintro e w' ⟨rfl, rfl⟩; rw [LN2.out])
              | (go_at_call 14; (with_reducible refine (Worst_calls b _ _ HS.out).mono ?_); rintro e w' ⟨rfl, rfl⟩))
            go_roundw
            case rel => exact ⟨k + 1, ⟨false, i1, i2, i3, e0, e1, e2, e3, wo⟩, by omega, by go_num, rfl, rfl, rfl, HS.out, SN.out, HF.out⟩
            case measure => simp [intOf]; omega
          · have R1 : Hid (Lg.at_ ⟨true, i1, i2, i3, e0, e1, e2, e3, wo⟩ 0 = true) := rfl
            have R2 : Hid (Lg.ended ⟨true, i1, i2, i3, e0, e1, e2, e3, wo⟩ 0 = ⟨false, i1, i2, i3, e0, e1, e2, e3, wo⟩) := rfl
            have a1 : Go.bits .and .u8 (msk true i1 i2 i3 4) 1 = 1 := bit_and0 true i1 i2 i3
            have a2 : Go.bits .andNot .u8 (msk true i1 i2 i3 4) 1 = msk false i1 i2 i3 4 := bit_not0 true i1 i2 i3
            obtain ⟨q0, q1, q2, q3⟩ := bit_c false i1 i2 i3
            have LN := hid (len_sum ⟨false, i1, i2, i3, e0, e1, e2, e3, wo⟩)
            have ls0 := len_sum ⟨true, i1, i2, i3, e0, e1, e2, e3, wo⟩
            have ls := len_sum ⟨false, i1, i2, i3, e0, e1, e2, e3, wo⟩
            dsimp only at ls ls0 LN
            have hlen2 : Lg.len ⟨false, i1, i2, i3, e0, e1, e2, e3, wo⟩ = cnt false i1 i2 i3 4 := rfl
            have d1 := bit_bd i1
            have d2 := bit_bd i2
            have d3 := bit_bd i3
            simp only [if_true, if_false, Bool.false_eq_true, ↓reduceIte] at q0 q1 q2 q3 LN ls ls0
            generalize (if i1 = true then (1 : Int) else 0) = y1 at *
            generalize (if i2 = true then (1 : Int) else 0) = y2 at *
            generalize (if i3 = true then (1 : Int) else 0) = y3 at *
            rw [hlen2] at ls LN
            clear hlen2
            have mx : (if wo < 0 + y1 + y2 + y3 then 0 + y1 + y2 + y3 else wo) = wo := by split <;> omega
            have SN : Hid (Sound ⟨false, i1, i2, i3, e0, e1, e2, e3, wo⟩) := ⟨fun h => by simp at h, u1, u2, u3, by show cnt false i1 i2 i3 4 ≤ wo; omega, by show 0 ≤ wo; omega, by show wo ≤ 4; omega⟩
            clear u0 u1 u2 u3 gl ls ls0
            have LN2 : Hid (Lg.len ⟨false, i1, i2, i3, e0, e1, e2, e3, wo⟩ = 0 + y1 + y2 + y3) := LN
            clear LN
            go_wp2_with (first
              | (go_at_call 7; (with_reducible refine (End_calls b _ _ HS.out 0 (by decide)).mono ?_); rintro e w' ⟨rfl, h', f'⟩; rw [R1.out]; rw [R2.out] at h'; have hck' : w'.cell? ⟨ba, off + k, none⟩ = some (.int .u8 x) := ((f'.cell (p := ⟨ba, off + k, none⟩) (World.block_lt_of_cell? _ _ hck) hnb).trans hck); have nf_ := hid (below_frm1 HF.out f' hb); clear HF f' HS; have HF := nf_; clear nf_; have HS := hid h'; clear h')
              | (go_at_call 15; (with_reducible refine (Mask_calls b _ _ HS.out).mono ?_); rintro e w' ⟨rfl, f'⟩; have n0_ := hid (HS.out.frm f' (fun h => h)); have nf_ := hid (below_frm0 HF.out f'); clear HF f' HS; have HF := nf_; clear nf_; have HS := n0_; clear n0_)
              | (go_at_call 17; (with_reducible refine (Ever_calls b _ _ HS.out).mono ?_); rintro e w' ⟨rfl, f'⟩; have n0_ := hid (HS.out.frm f' (fun h => h)); have nf_ := hid (below_frm0 HF.out f'); clear HF f' HS; have HF := nf_; clear nf_; have HS := n0_; clear n0_)
              | (go_at_call 12; (with_reducible refine (Len_calls b _ _ HS.out).mono ?_); rintro e w' ⟨rfl, rfl⟩; rw [LN2.out])
              | (go_at_call 14; (with_reducible refine (Worst_calls b _ _ HS.out).mono ?_); rintro e w' ⟨rfl, rfl⟩))
            go_roundw
            case rel => exact ⟨k + 1, ⟨false, i1, i2, i3, e0, e1, e2, e3, wo⟩, by omega, by go_num, rfl, rfl, rfl, HS.out, SN.out, HF.out⟩
            case measure => simp [intOf]; omega
        · cases i1
          · have R1 : Hid (Lg.at_ ⟨i0, false, i2, i3, e0, e1, e2, e3, wo⟩ 1 = false) := rfl
            have R2 : Hid (Lg.ended ⟨i0, false, i2, i3, e0, e1, e2, e3, wo⟩ 1 = ⟨i0, false, i2, i3, e0, e1, e2, e3, wo⟩) := rfl
            have a1 : Go.bits .and .u8 (msk i0 false i2 i3 4) 2 = 0 := bit_and1 i0 false i2 i3
            have a2 : Go.bits .andNot .u8 (msk i0 false i2 i3 4) 2 = msk i0 false i2 i3 4 := bit_not1 i0 false i2 i3
            obtain ⟨q0, q1, q2, q3⟩ := bit_c i0 false i2 i3
            have LN := hid (len_sum ⟨i0, false, i2, i3, e0, e1, e2, e3, wo⟩)
            have ls0 := len_sum ⟨i0, false, i2, i3, e0, e1, e2, e3, wo⟩
            have ls := len_sum ⟨i0, false, i2, i3, e0, e1, e2, e3, wo⟩
            dsimp only at ls ls0 LN
            have hlen2 : Lg.len ⟨i0, false, i2, i3, e0, e1, e2, e3, wo⟩ = cnt i0 false i2 i3 4 := rfl
            have d0 := bit_bd i0
            have d2 := bit_bd i2
            have d3 := bit_bd i3
            simp only [if_true, if_false, Bool.false_eq_true, ↓reduceIte] at q0 q1 q2 q3 LN ls ls0
            generalize (if i0 = true then (1 : Int) else 0) = y0 at *
            generalize (if i2 = true then (1 : Int) else 0) = y2 at *
            generalize (if i3 = true then (1 : Int) else 0) = y3 at *
            rw [hlen2] at ls LN
            clear hlen2
            have mx : (if wo < y0 + 0 + y2 + y3 then y0 + 0 + y2 + y3 else wo) = wo := by split <;> omega
            have SN : Hid (Sound ⟨i0, false, i2, i3, e0, e1, e2, e3, wo⟩) := ⟨u0, fun h => by simp at h, u2, u3, by show cnt i0 false i2 i3 4 ≤ wo; omega, by show 0 ≤ wo; omega, by show wo ≤ 4; omega⟩
            clear u0 u1 u2 u3 gl ls ls0
            have LN2 : Hid (Lg.len ⟨i0, false, i2, i3, e0, e1, e2, e3, wo⟩ = y0 + 0 + y2 + y3) := LN
            clear LN
            go_wp2_with (first
              | (go_at_call 7; (with_reducible refine (End_calls b _ _ HS.out 1 (by decide)).mono ?_); rintro e w' ⟨rfl, h', f'⟩; rw [R1.out]; rw [R2.out] at h'; have hck' : w'.cell? ⟨ba, off + k, none⟩ = some (.int .u8 x) := ((f'.cell (p := ⟨ba, off + k, none⟩) (World.block_lt_of_cell? _ _ hck) hnb).trans hck); have nf_ := hid (below_frm1 HF.out f' hb); clear HF f' HS; have HF := nf_; clear nf_; have HS := hid h'; clear h')
              | (go_at_call 15; (with_reducible refine (Mask_calls b _ _ HS.out).mono ?_); rintro e w' ⟨rfl, f'⟩; have n0_ := hid (HS.out.frm f' (fun h => h)); have nf_ := hid (below_frm0 HF.out f'); clear HF f' HS; have HF := nf_; clear nf_; have HS := n0_; clear n0_)
              | (go_at_call 17; (with_reducible refine (Ever_calls b _ _ HS.out).mono ?_); rintro e w' ⟨rfl, f'⟩; have n0_ := hid (HS.out.frm f' (fun h => h)); have nf_ := hid (below_frm0 HF.out f'); clear HF f' HS; have HF := nf_; clear nf_; have HS := n0_; clear n0_)
              | (go_at_call 12; (with_reducible refine (Len_calls b _ _ HS.out).mono ?_); rintro e w' ⟨rfl, rfl⟩; rw [LN2.out])
              | (go_at_call 14; (with_reducible refine (Worst_calls b _ _ HS.out).mono ?_); rintro e w' ⟨rfl, rfl⟩))
            go_roundw
            case rel => exact ⟨k + 1, ⟨i0, false, i2, i3, e0, e1, e2, e3, wo⟩, by omega, by go_num, rfl, rfl, rfl, HS.out, SN.out, HF.out⟩
            case measure => simp [intOf]; omega
          · have R1 : Hid (Lg.at_ ⟨i0, true, i2, i3, e0, e1, e2, e3, wo⟩ 1 = true) := rfl
            have R2 : Hid (Lg.ended ⟨i0, true, i2, i3, e0, e1, e2, e3, wo⟩ 1 = ⟨i0, false, i2, i3, e0, e1, e2, e3, wo⟩) := rfl
            have a1 : Go.bits .and .u8 (msk i0 true i2 i3 4) 2 = 2 := bit_and1 i0 true i2 i3
            have a2 : Go.bits .andNot .u8 (msk i0 true i2 i3 4) 2 = msk i0 false i2 i3 4 := bit_not1 i0 true i2 i3
            obtain ⟨q0, q1, q2, q3⟩ := bit_c i0 false i2 i3
            have LN := hid (len_sum ⟨i0, false, i2, i3, e0, e1, e2, e3, wo⟩)
            have ls0 := len_sum ⟨i0, true, i2, i3, e0, e1, e2, e3, wo⟩
            have ls := len_sum ⟨i0, false, i2, i3, e0, e1, e2, e3, wo⟩
            dsimp only at ls ls0 LN
            have hlen2 : Lg.len ⟨i0, false, i2, i3, e0, e1, e2, e3, wo⟩ = cnt i0 false i2 i3 4 := rfl
            have d0 := bit_bd i0
            have d2 := bit_bd i2
            have d3 := bit_bd i3
            simp only [if_true, if_false, Bool.false_eq_true, ↓reduceIte] at q0 q1 q2 q3 LN ls ls0
            generalize (if i0 = true then (1 : Int) else 0) = y0 at *
            generalize (if i2 = true then (1 : Int) else 0) = y2 at *
            generalize (if i3 = true then (1 : Int) else 0) = y3 at *
            rw [hlen2] at ls LN
            clear hlen2
            have mx : (if wo < y0 + 0 + y2 + y3 then y0 + 0 + y2 + y3 else wo) = wo := by split <;> omega
            have SN : Hid (Sound ⟨i0, false, i2, i3, e0, e1, e2, e3, wo⟩) := ⟨u0, fun h => by simp at h, u2, u3, by show cnt i0 false i2 i3 4 ≤ wo; omega, by show 0 ≤ wo; omega, by show wo ≤ 4; omega⟩
            clear u0 u1 u2 u3 gl ls ls0
            have LN2 : Hid (Lg.len ⟨i0, false, i2, i3, e0, e1, e2, e3, wo⟩ = y0 + 0 + y2 + y3) := LN
            clear LN
            go_wp2_with (first
              | (go_at_call 7; (with_reducible refine (End_calls b _ _ HS.out 1 (by decide)).mono ?_); rintro e w' ⟨rfl, h', f'⟩; rw [R1.out]; rw [R2.out] at h'; have hck' : w'.cell? ⟨ba, off + k, none⟩ = some (.int .u8 x) := ((f'.cell (p := ⟨ba, off + k, none⟩) (World.block_lt_of_cell? _ _ hck) hnb).trans hck); have nf_ := hid (below_frm1 HF.out f' hb); clear HF f' HS; have HF := nf_; clear nf_; have HS := hid h'; clear h')
              | (go_at_call 15; (with_reducible refine (Mask_calls b _ _ HS.out).mono ?_); rintro e w' ⟨rfl, f'⟩; have n0_ := hid (HS.out.frm f' (fun h => h)); have nf_ := hid (below_frm0 HF.out f'); clear HF f' HS; have HF := nf_; clear nf_; have HS := n0_; clear n0_)
              | (go_at_call 17; (with_reducible refine (Ever_calls b _ _ HS.out).mono ?_); rintro e w' ⟨rfl, f'⟩; have n0_ := hid (HS.out.frm f' (fun h => h)); have nf_ := hid (below_frm0 HF.out f'); clear HF f' HS; have HF := nf_; clear nf_; have HS := n0_; clear n0_)
              | (go_at_call 12; (with_reducible refine (Len_calls b _ _ HS.out).mono ?_); rintro e w' ⟨rfl, rfl⟩; rw [LN2.out])
              | (go_at_call 14; (with_reducible refine (Worst_calls b _ _ HS.out).mono ?_); rintro e w' ⟨rfl, rfl⟩))
            go_roundw
            case rel => exact ⟨k + 1, ⟨i0, false, i2, i3, e0, e1, e2, e3, wo⟩, by omega, by go_num, rfl, rfl, rfl, HS.out, SN.out, HF.out⟩
            case measure => simp [intOf]; omega
        · cases i2
          · have R1 : Hid (Lg.at_ ⟨i0, i1, false, i3, e0, e1, e2, e3, wo⟩ 2 = false) := rfl
            have R2 : Hid (Lg.ended ⟨i0, i1, false, i3, e0, e1, e2, e3, wo⟩ 2 = ⟨i0, i1, false, i3, e0, e1, e2, e3, wo⟩) := rfl
            have a1 : Go.bits .and .u8 (msk i0 i1 false i3 4) 4 = 0 := bit_and2 i0 i1 false i3
            have a2 : Go.bits .andNot .u8 (msk i0 i1 false i3 4) 4 = msk i0 i1 false i3 4 := bit_not2 i0 i1 false i3
            obtain ⟨q0, q1, q2, q3⟩ := bit_c i0 i1 false i3
            have LN := hid (len_sum ⟨i0, i1, false, i3, e0, e1, e2, e3, wo⟩)
            have ls0 := len_sum ⟨i0, i1, false, i3, e0, e1, e2, e3, wo⟩
            have ls := len_sum ⟨i0, i1, false, i3, e0, e1, e2, e3, wo⟩
            dsimp only at ls ls0 LN
            have hlen2 : Lg.len ⟨i0, i1, false, i3, e0, e1, e2, e3, wo⟩ = cnt i0 i1 false i3 4 := rfl
            have d0 := bit_bd i0
            have d1 := bit_bd i1
            have d3 := bit_bd i3
            simp only [if_true, if_false, Bool.false_eq_true, ↓reduceIte] at q0 q1 q2 q3 LN ls ls0
            generalize (if i0 = true then (1 : Int) else 0) = y0 at *
            generalize (if i1 = true then (1 : Int) else 0) = y1 at *
            generalize (if i3 = true then (1 : Int) else 0) = y3 at *
            rw [hlen2] at ls LN
            clear hlen2
            have mx : (if wo < y0 + y1 + 0 + y3 then y0 + y1 + 0 + y3 else wo) = wo := by split <;> omega
            have SN : Hid (Sound ⟨i0, i1, false, i3, e0, e1, e2, e3, wo⟩) := ⟨u0, u1, fun h => by simp at h, u3, by show cnt i0 i1 false i3 4 ≤ wo; omega, by show 0 ≤ wo; omega, by show wo ≤ 4; omega⟩
            clear u0 u1 u2 u3 gl ls ls0
            have LN2 : Hid (Lg.len ⟨i0, i1, false, i3, e0, e1, e2, e3, wo⟩ = y0 + y1 + 0 + y3) := LN
            clear LN
            go_wp2_with (first
              | (go_at_call 7; (with_reducible refine (End_calls b _ _ HS.out 2 (by decide)).mono ?_); rintro e w' ⟨rfl, h', f'⟩; rw [R1.out]; rw [R2.out] at h'; have hck' : w'.cell? ⟨ba, off + k, none⟩ = some (.int .u8 x) := ((f'.cell (p := ⟨ba, off + k, none⟩) (World.block_lt_of_cell? _ _ hck) hnb).trans hck); have nf_ := hid (below_frm1 HF.out f' hb); clear HF f' HS; have HF := nf_; clear nf_; have HS := hid h'; clear h')
              | (go_at_call 15; (with_reducible refine (Mask_calls b _ _ HS.out).mono ?_); rintro e w' ⟨rfl, f'⟩; have n0_ := hid (HS.out.frm f' (fun h => h)); have nf_ := hid (below_frm0 HF.out f'); clear HF f' HS; have HF := nf_; clear nf_; have HS := n0_; clear n0_)
              | (go_at_call 17; (with_reducible refine (Ever_calls b _ _ HS.out).mono ?_); rintro e w' ⟨rfl, f'⟩; have n0_ := hid (HS.out.frm f' (fun h => h)); have nf_ := hid (below_frm0 HF.out f'); clear HF f' HS; have HF := nf_; clear nf_; have HS := n0_; clear n0_)
              | (go_at_call 12; (with_reducible refine (Len_calls b _ _ HS.out).mono ?_); rintro e w' ⟨rfl, rfl⟩; rw [LN2.out])
              | (go_at_call 14; (with_reducible refine (Worst_calls b _ _ HS.out).mono ?_); rintro e w' ⟨rfl, rfl⟩))
            go_roundw
            case rel => exact ⟨k + 1, ⟨i0, i1, false, i3, e0, e1, e2, e3, wo⟩, by omega, by go_num, rfl, rfl, rfl, HS.out, SN.out, HF.out⟩
            case measure => simp [intOf]; omega
          · have R1 : Hid (Lg.at_ ⟨i0, i1, true, i3, e0, e1, e2, e3, wo⟩ 2 = true) := rfl
            have R2 : Hid (Lg.ended ⟨i0, i1, true, i3, e0, e1, e2, e3, wo⟩ 2 = ⟨i0, i1, false, i3, e0, e1, e2, e3, wo⟩) := rfl
            have a1 : Go.bits .and .u8 (msk i0 i1 true i3 4) 4 = 4 := bit_and2 i0 i1 true i3
            have a2 : Go.bits .andNot .u8 (msk i0 i1 true i3 4) 4 = msk i0 i1 false i3 4 := bit_not2 i0 i1 true i3
            obtain ⟨q0, q1, q2, q3⟩ := bit_c i0 i1 false i3
            have LN := hid (len_sum ⟨i0, i1, false, i3, e0, e1, e2, e3, wo⟩)
            have ls0 := len_sum ⟨i0, i1, true, i3, e0, e1, e2, e3, wo⟩
            have ls := len_sum ⟨i0, i1, false, i3, e0, e1, e2, e3, wo⟩
            dsimp only at ls ls0 LN
            have hlen2 : Lg.len ⟨i0, i1, false, i3, e0, e1, e2, e3, wo⟩ = cnt i0 i1 false i3 4 := rfl
            have d0 := bit_bd i0
            have d1 := bit_bd i1
            have d3 := bit_bd i3
            simp only [if_true, if_false, Bool.false_eq_true, ↓reduceIte] at q0 q1 q2 q3 LN ls ls0
            generalize (if i0 = true then (1 : Int) else 0) = y0 at *
            generalize (if i1 = true then (1 : Int) else 0) = y1 at *
            generalize (if i3 = true then (1 : Int) else 0) = y3 at *
            rw [hlen2] at ls LN
            clear hlen2
            have mx : (if wo < y0 + y1 + 0 + y3 then y0 + y1 + 0 + y3 else wo) = wo := by split <;> omega
            have SN : Hid (Sound ⟨i0, i1, false, i3, e0, e1, e2, e3, wo⟩) := ⟨u0, u1, fun h => by simp at h, u3, by show cnt i0 i1 false i3 4 ≤ wo; omega, by show 0 ≤ wo; omega, by show wo ≤ 4; omega⟩
            clear u0 u1 u2 u3 gl ls ls0
            have LN2 : Hid (Lg.len ⟨i0, i1, false, i3, e0, e1, e2, e3, wo⟩ = y0 + y1 + 0 + y3) := LN
            clear LN
            go_wp2_with (first
              | (go_at_call 7; (with_reducible refine (End_calls b _ _ HS.out 2 (by decide)).mono ?_); rintro e w' ⟨rfl, h', f'⟩; rw [R1.out]; rw [R2.out] at h'; have hck' : w'.cell? ⟨ba, off + k, none⟩ = some (.int .u8 x) := ((f'.cell (p := ⟨ba, off + k, none⟩) (World.block_lt_of_cell? _ _ hck) hnb).trans hck); have nf_ := hid (below_frm1 HF.out f' hb); clear HF f' HS; have HF := nf_; clear nf_; have HS := hid h'; clear h')
              | (go_at_call 15; (with_reducible refine (Mask_calls b _ _ HS.out).mono ?_); rintro e w' ⟨rfl, f'⟩; have n0_ := hid (HS.out.frm f' (fun h => h)); have nf_ := hid (below_frm0 HF.out f'); clear HF f' HS; have HF := nf_; clear nf_; have HS := n0_; clear n0_)
              | (go_at_call 17; (with_reducible refine (Ever_calls b _ _ HS.out).mono ?_); rintro e w' ⟨rfl, f'⟩; have n0_ := hid (HS.out.frm f' (fun h => h)); have nf_ := hid (below_frm0 HF.out f'); clear HF f' HS; have HF := nf_; clear nf_; have HS := n0_; clear n0_)
              | (go_at_call 12; (with_reducible refine (Len_calls b _ _ HS.out).mono ?_); rintro e w' ⟨rfl, rfl⟩; rw [LN2.out])
              | (go_at_call 14; (with_reducible refine (Worst_calls b _ _ HS.out).mono ?_); rintro e w' ⟨rfl, rfl⟩))
            go_roundw
            case rel => exact ⟨k + 1, ⟨i0, i1, false, i3, e0, e1, e2, e3, wo⟩, by omega, by go_num, rfl, rfl, rfl, HS.out, SN.out, HF.out⟩
            case measure => simp [intOf]; omega
        · cases i3
          · have R1 : Hid (Lg.at_ ⟨i0, i1, i2, false, e0, e1, e2, e3, wo⟩ 3 = false) := rfl
            have R2 : Hid (Lg.ended ⟨i0, i1, i2, false, e0, e1, e2, e3, wo⟩ 3 = ⟨i0, i1, i2, false, e0, e1, e2, e3, wo⟩) := rfl
            have a1 : Go.bits .and .u8 (msk i0 i1 i2 false 4) 8 = 0 := bit_and3 i0 i1 i2 false
            have a2 : Go.bits .andNot .u8 (msk i0 i1 i2 false 4) 8 = msk i0 i1 i2 false 4 := bit_not3 i0 i1 i2 false
            obtain ⟨q0, q1, q2, q3⟩ := bit_c i0 i1 i2 false
            have LN := hid (len_sum ⟨i0, i1, i2, false, e0, e1, e2, e3, wo⟩)
            have ls0 := len_sum ⟨i0, i1, i2, false, e0, e1, e2, e3, wo⟩
            have ls := len_sum ⟨i0, i1, i2, false, e0, e1, e2, e3, wo⟩
            dsimp only at ls ls0 LN
            have hlen2 : Lg.len ⟨i0, i1, i2, false, e0, e1, e2, e3, wo⟩ = cnt i0 i1 i2 false 4 := rfl
            have d0 := bit_bd i0
            have d1 := bit_bd i1
            have d2 := bit_bd i2
            simp only [if_true, if_false, Bool.false_eq_true, ↓reduceIte] at q0 q1 q2 q3 LN ls ls0
            generalize (if i0 = true then (1 : Int) else 0) = y0 at *
            generalize (if i1 = true then (1 : Int) else 0) = y1 at *
            generalize (if i2 = true then (1 : Int) else 0) = y2 at *
            rw [hlen2] at ls LN
            clear hlen2
            have mx : (if wo < y0 + y1 + y2 + 0 then y0 + y1 + y2 + 0 else wo) = wo := by split <;> omega
            have SN : Hid (Sound ⟨i0, i1, i2, false, e0, e1, e2, e3, wo⟩) := ⟨u0, u1, u2, fun h => by simp at h, by show cnt i0 i1 i2 false 4 ≤ wo; omega, by show 0 ≤ wo; omega, by show wo ≤ 4; omega⟩
            clear u0 u1 u2 u3 gl ls ls0
            have LN2 : Hid (Lg.len ⟨i0, i1, i2, false, e0, e1, e2, e3, wo⟩ = y0 + y1 + y2 + 0) := LN
            clear LN
            go_wp2_with (first
              | (go_at_call 7; (with_reducible refine (End_calls b _ _ HS.out 3 (by decide)).mono ?_); rintro e w' ⟨rfl, h', f'⟩; rw [R1.out]; rw [R2.out] at h'; have hck' : w'.cell? ⟨ba, off + k, none⟩ = some (.int .u8 x) := ((f'.cell (p := ⟨ba, off + k, none⟩) (World.block_lt_of_cell? _ _ hck) hnb).trans hck); have nf_ := hid (below_frm1 HF.out f' hb); clear HF f' HS; have HF := nf_; clear nf_; have HS := hid h'; clear h')
              | (go_at_call 15; (with_reducible refine (Mask_calls b _ _ HS.out).mono ?_); rintro e w' ⟨rfl, f'⟩; have n0_ := hid (HS.out.frm f' (fun h => h)); have nf_ := hid (below_frm0 HF.out f'); clear HF f' HS; have HF := nf_; clear nf_; have HS := n0_; clear n0_)
              | (go_at_call 17; (with_reducible refine (Ever_calls b _ _ HS.out).mono ?_); rintro e w' ⟨rfl, f'⟩; have n0_ := hid (HS.out.frm f' (fun h => h)); have nf_ := hid (below_frm0 HF.out f'); clear HF f' HS; have HF := nf_; clear nf_; have HS := n0_; clear n0_)
              | (go_at_call 12; (with_reducible refine (Len_calls b _ _ HS.out).mono ?_); rintro e w' ⟨rfl, rfl⟩; rw [LN2.out])
              | (go_at_call 14; (with_reducible refine (Worst_calls b _ _ HS.out).mono ?_); rintro e w' ⟨rfl, rfl⟩))
            go_roundw
            case rel => exact ⟨k + 1, ⟨i0, i1, i2, false, e0, e1, e2, e3, wo⟩, by omega, by go_num, rfl, rfl, rfl, HS.out, SN.out, HF.out⟩
            case measure => simp [intOf]; omega
          · have R1 : Hid (Lg.at_ ⟨i0, i1, i2, true, e0, e1, e2, e3, wo⟩ 3 = true) := rfl
            have R2 : Hid (Lg.ended ⟨i0, i1, i2, true, e0, e1, e2, e3, wo⟩ 3 = ⟨i0, i1, i2, false, e0, e1, e2, e3, wo⟩) := rfl
            have a1 : Go.bits .and .u8 (msk i0 i1 i2 true 4) 8 = 8 := bit_and3 i0 i1 i2 true
            have a2 : Go.bits .andNot .u8 (msk i0 i1 i2 true 4) 8 = msk i0 i1 i2 false 4 := bit_not3 i0 i1 i2 true
            obtain ⟨q0, q1, q2, q3⟩ := bit_c i0 i1 i2 false
            have LN := hid (len_sum ⟨i0, i1, i2, false, e0, e1, e2, e3, wo⟩)
            have ls0 := len_sum ⟨i0, i1, i2, true, e0, e1, e2, e3, wo⟩
            have ls := len_sum ⟨i0, i1, i2, false, e0, e1, e2, e3, wo⟩
            dsimp only at ls ls0 LN
            have hlen2 : Lg.len ⟨i0, i1, i2, false, e0, e1, e2, e3, wo⟩ = cnt i0 i1 i2 false 4 := rfl
            have d0 := bit_bd i0
            have d1 := bit_bd i1
            have d2 := bit_bd i2
            simp only [if_true, if_false, Bool.false_eq_true, ↓reduceIte] at q0 q1 q2 q3 LN ls ls0
            generalize (if i0 = true then (1 : Int) else 0) = y0 at *
            generalize (if i1 = true then (1 : Int) else 0) = y1 at *
            generalize (if i2 = true then (1 : Int) else 0) = y2 at *
            rw [hlen2] at ls LN
            clear hlen2
            have mx : (if wo < y0 + y1 + y2 + 0 then y0 + y1 + y2 + 0 else wo) = wo := by split <;> omega
            have SN : Hid (Sound ⟨i0, i1, i2, false, e0, e1, e2, e3, wo⟩) := ⟨u0, u1, u2, fun h => by simp at h, by show cnt i0 i1 i2 false 4 ≤ wo; omega, by show 0 ≤ wo; omega, by show wo ≤ 4; omega⟩
            clear u0 u1 u2 u3 gl ls ls0
            have LN2 : Hid (Lg.len ⟨i0, i1, i2, false, e0, e1, e2, e3, wo⟩ = y0 + y1 + y2 + 0) := LN
            clear LN
            go_wp2_with (first
              | (go_at_call 7; (with_reducible refine (End_calls b _ _ HS.out 3 (by decide)).mono ?_); rintro e w' ⟨rfl, h', f'⟩; rw [R1.out]; rw [R2.out] at h'; have hck' : w'.cell? ⟨ba, off + k, none⟩ = some (.int .u8 x) := ((f'.cell (p := ⟨ba, off + k, none⟩) (World.block_lt_of_cell? _ _ hck) hnb).trans hck); have nf_ := hid (below_frm1 HF.out f' hb); clear HF f' HS; have HF := nf_; clear nf_; have HS := hid h'; clear h')
              | (go_at_call 15; (with_reducible refine (Mask_calls b _ _ HS.out).mono ?_); rintro e w' ⟨rfl, f'⟩; have n0_ := hid (HS.out.frm f' (fun h => h)); have nf_ := hid (below_frm0 HF.out f'); clear HF f' HS; have HF := nf_; clear nf_; have HS := n0_; clear n0_)
              | (go_at_call 17; (with_reducible refine (Ever_calls b _ _ HS.out).mono ?_); rintro e w' ⟨rfl, f'⟩; have n0_ := hid (HS.out.frm f' (fun h => h)); have nf_ := hid (below_frm0 HF.out f'); clear HF f' HS; have HF := nf_; clear nf_; have HS := n0_; clear n0_)
              | (go_at_call 12; (with_reducible refine (Len_calls b _ _ HS.out).mono ?_); rintro e w' ⟨rfl, rfl⟩; rw [LN2.out])
              | (go_at_call 14; (with_reducible refine (Worst_calls b _ _ HS.out).mono ?_); rintro e w' ⟨rfl, rfl⟩))
            go_roundw
            case rel => exact ⟨k + 1, ⟨i0, i1, i2, false, e0, e1, e2, e3, wo⟩, by omega, by go_num, rfl, rfl, rfl, HS.out, SN.out, HF.out⟩
            case measure => simp [intOf]; omega
    · have B1 : Hid (s.begins 4 = false) := rfl
      have B2 : Hid (s.begun 4 = s) := rfl
      have B3 : Hid (s.at_ 4 = false) := rfl
      have B4 : Hid (s.ended 4 = s) := rfl
      clear hg
      go_wp2_with (first
        | (go_at_call 9; (with_reducible refine (Begin_calls b _ _ HS.out 4 (by decide)).mono ?_); rintro e w' ⟨rfl, h', f'⟩; rw [B1.out]; rw [B2.out] at h'; have nf_ := hid (below_frm1 HF.out f' hb); clear HF f' HS; have HF := nf_; clear nf_; have HS := hid h'; clear h')
        | (go_at_call 7; (with_reducible refine (End_calls b _ _ HS.out 4 (by decide)).mono ?_); rintro e w' ⟨rfl, h', f'⟩; rw [B3.out]; rw [B4.out] at h'; have nf_ := hid (below_frm1 HF.out f' hb); clear HF f' HS; have HF := nf_; clear nf_; have HS := hid h'; clear h')
        | (go_at_call 11; (with_reducible refine (In_calls b _ _ HS.out 4 (by decide)).mono ?_); rintro e w' ⟨rfl, rfl⟩; rw [B3.out]))
      go_ret
      exact ⟨rfl, HF.out⟩
end Go.Proofs.Ytmfklfgddblmdaa
