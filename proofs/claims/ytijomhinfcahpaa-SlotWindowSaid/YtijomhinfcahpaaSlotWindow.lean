/- SlotWindow, walked: the window has eight places above its low; moved, it has eight others; what is below is gone. -/
import Derived.Test.YtijomhinfcahpaaSlot8
import Derived.Test.YtijomhinfcahpaaSlotKnown
import Derived.Test.YtijomhinfcahpaaSlotOneP
namespace Go.Proofs.Ytijomhinfcahpaa
open Go.RowKit Go.ChangeShapes
set_option linter.unusedVariables false
set_option linter.unusedSimpArgs false
set_option maxRecDepth 20000
theorem bounds_u8 {n : Int} (h : (Lit.int .u8 n).wf = true) : 0 ≤ n ∧ n ≤ 255 := bnd8 h
def zS : Sd := ⟨true, 0, 0, 0, 0, 0, 0⟩
def PS (σ : Int → Sl) : Prop := ∀ s, (σ s).acc = zS ∨ (σ s).acc = sd0
def FF (σ : Int → Sl) (L : Int) (j : Nat) : Prop := ∀ q : Nat, 1 ≤ q → q < j → q ≤ 8 → (σ (L + q)).acc = zS
theorem PS.acc {σ : Int → Sl} (h : PS σ) (s : Int) : PS (updS σ s ((σ s).accept zS)) := fun i => by
  by_cases e : i = s
  · subst e; rw [updS_eq]; exact .inl rfl
  · rw [updS_ne e]; exact h i
theorem PS.taken {σ : Int → Sl} (h : PS σ) (s : Int) : taken (σ s).acc 0 0 0 0 0 0 = false := by rcases h s with e | e <;> rw [e] <;> rfl
theorem PS.cut {σ : Int → Sl} (h : PS σ) (M : Int) : PS (cutS M σ) := fun i => by
  unfold cutS
  split
  · exact h i
  · exact .inr rfl
theorem FF.next {σ : Int → Sl} {L : Int} {j : Nat} (h : FF σ L j) : FF (updS σ (L + j) ((σ (L + j)).accept zS)) L (j + 1) := fun q h1 h2 h3 => by
  by_cases e : q = j
  · subst e; rw [updS_eq]; rfl
  · rw [updS_ne (by omega)]; exact h q h1 (by omega) h3
theorem FF.skip {σ : Int → Sl} {L : Int} {j : Nat} (h : FF σ L j) (hj : j = 0 ∨ 9 ≤ j) : FF σ L (j + 1) := fun q h1 h2 h3 => h q h1 (by omega) h3
theorem told_cut {σ : Int → Sl} {L r : Int} (hr : 0 ≤ r) (h : FF σ L 11) (q : Nat) (h1 : 1 ≤ q) (h8 : q ≤ 8) : toldS (L + r) (cutS (L + r) (cutS (L + r) σ)) (fun _ => true) (L + q) = decide (r < (q : Int)) := by
  unfold toldS
  by_cases hq : r < (q : Int)
  · have hin : inW (L + r) (L + q) = true := decide_eq_true ⟨by omega, by omega⟩
    rw [hin, decide_eq_true hq]
    unfold cutS
    rw [if_pos hin, if_pos hin, h q h1 (by omega) h8]
    rfl
  · have hin : inW (L + r) (L + q) = false := decide_eq_false (fun h => by omega)
    rw [hin, decide_eq_false hq, Bool.false_and]
set_option maxRecDepth 100000 in
set_option maxHeartbeats 16000000 in
theorem SlotWindow_walk (a0 : Int) (a1 : Option Addr) (c1 : Nat) (z1 : List Int) (w : World) (h0 : (Lit.int .u32 a0).wf = true) (h1 : IsInts .u8 w a1 c1 z1) :
    Calls Try.prog 5 #[.int .u32 a0, .slice a1 z1.length c1] w fun e w' => e = .returned (.bool true) ∧ Below w.heap.size w w' := by
  have hv := bnd32 h0
  have hle := h1.le
  have hsm := h1.small
  by_cases hlen : z1.length > 30
  · go_enter Try.func5, Try.ntmps5
    go_wp2_with (go_at_call 8; (with_reducible refine (known_calls _).mono ?_); rintro e w1 ⟨rfl, f1⟩)
    go_ret
    exact ⟨rfl, f1⟩
  by_cases hlow : a0 > 1073741824
  · go_enter Try.func5, Try.ntmps5
    go_wp2_with (go_at_call 8; (with_reducible refine (known_calls _).mono ?_); rintro e w1 ⟨rfl, f1⟩)
    go_ret
    exact ⟨rfl, f1⟩
  have H1 := hid h1; have HV := hid hv
  have hl0 := hv.1
  clear h0 h1 hv
  have HZL := hid (show z1.length ≤ 30 by omega)
  go_enter Try.func5, Try.ntmps5
  go_wp2_with (first
    | (go_at_call 8; (with_reducible refine (known_calls _).mono ?_); rintro e w1 ⟨rfl, f1⟩; have HF := hid f1; clear f1)
    | (go_at_call 9; (with_reducible refine (GNew_calls w1 a0 HV.out).mono ?_); rintro e w2 ⟨lb, rfl, hl, hlb, f'⟩; have HB := hid HF.out.size; have HF2 := hid (below_next HF.out f'); clear HF; have HF := HF2; clear HF2; have HL := hid hl; clear hl f' hlb))
  go_loopw [0, 6] (fun lowv iv wr => ∃ (i : Nat) (L : Int) (σ : Int → Sl), i ≤ z1.length ∧ lowv = .int .u32 L ∧ iv = .int .i64 i ∧ 0 ≤ L ∧ L ≤ 1073741824 + 12 * i ∧ PS σ ∧ Lg wr w1.heap.size lb L (11 * i) σ ∧ Below w.heap.size w wr) (fun _ i _ => z1.length - (intOf i).toNat)
  case atStart => exact ⟨0, a0, _, by omega, rfl, rfl, hl0, by omega, fun _ => .inr rfl, HL.out, HF.out⟩
  case round =>
    clear HL HF hl0 hlow hlen
    obtain ⟨i, L, σ, hi, rfl, rfl, hL0, hLb, hps, hl, hf⟩ := hrel
    have HL := hid hl; have HF := hid hf; have HPS := hid hps; clear hl hf hps
    by_cases hlt : i < z1.length
    · have hil : (i : Int) < (z1.length : Int) := by omega
      have hi30 : i ≤ 30 := by have := HZL.out; omega
      have HLB := hid (show 0 ≤ L ∧ L ≤ 1073742200 by omega)
      have HLT := hid hlt; have HI30 := hid hi30; have HLBB := hid hLb
      obtain ⟨wo, hwo⟩ : ∃ wo : World, wo = wr := ⟨_, rfl⟩
      subst hwo
      clear hi hlt hi30 hLb
      go_wp2
      go_loopw [7] (fun sv wr => ∃ (j : Nat) (σ : Int → Sl), j ≤ 11 ∧ sv = .int .u32 j ∧ PS σ ∧ FF σ L j ∧ Lg wr w1.heap.size lb L (11 * i + j) σ ∧ Below w.heap.size w wr) (fun s _ => 11 - (intOf s).toNat)
      case atStart => exact ⟨0, σ, by omega, rfl, HPS.out, fun q h1 h2 _ => by omega, HL.out, HF.out⟩
      case round =>
        clear HL HF HPS
        obtain ⟨j, σ, hj, rfl, hps, hff, hl, hf⟩ := hrel
        have HL := hid hl; have HF := hid hf; have HPS := hid hps; have HFF := hid hff; clear hl hf hps hff
        have HSJ := hid (show 0 ≤ L + (j : Int) ∧ L + (j : Int) ≤ 4294967295 by have := HLB.out; omega)
        have HNN := hid (show 11 * i + j < 100000 by have := HI30.out; omega)
        have HNN1 := hid (show 11 * i + j + 1 < 100000 by have := HI30.out; omega)
        have e1 : IntKind.u32.wrap (L + (j : Int)) = L + (j : Int) := wrap32 HSJ.out
        by_cases hin8 : 1 ≤ j ∧ j ≤ 8
        · have hj1 : (1 : Int) ≤ (j : Int) := by omega
          have hj8 : (j : Int) ≤ 8 := by omega
          have hj10 : (j : Int) ≤ 10 := by omega
          have hin : inW L (L + j) = true := decide_eq_true ⟨by omega, by omega⟩
          have HIN := hid hin
          have HJ := hid hj; have HJ8 := hid hin8
          have ht := HPS.out.taken (L + j)
          obtain ⟨τ, hτ⟩ : ∃ τ, updS σ (L + j) ((σ (L + j)).accept zS) = τ := ⟨_, rfl⟩
          have HCC := hid (show accC L σ 0 (L + j) 0 0 0 0 0 = 0 by unfold accC; rw [if_pos hin, ht]; rfl)
          have HXX := hid (show accX L σ 0 (L + j) 0 0 0 0 0 = τ by rw [← hτ]; unfold accX; rw [if_pos hin, ht]; rfl)
          have HPS2 := hid (show PS τ from hτ ▸ HPS.out.acc (L + j))
          have HFF2 := hid (show FF τ L (j + 1) from hτ ▸ HFF.out.next)
          have HTD := hid (show toldS L τ (fun _ => true) (L + j) = true by unfold toldS; rw [hin, ← hτ, updS_eq]; rfl)
          clear hin hj hin8 ht hτ HPS HFF
          go_wp2_with (first
            | (go_at_call 16; (with_reducible refine (GIn_calls HL.out (L + (j : Int)) HSJ.out true HIN.out).mono ?_); rintro e w' ⟨rfl, rfl⟩; skip)
            | (go_at_call 10; (with_reducible refine (GAccept_calls HL.out HNN.out 0 (L + (j : Int)) 0 0 0 0 0 (by decide) HSJ.out 0 HCC.out τ HXX.out).mono ?_); rintro e w5 ⟨rfl, hl, lf⟩; have HF2 := hid (lf.below HB.out HF.out); clear HF HL; have HF := HF2; clear HF2; have HL := hid hl; clear hl lf)
            | (go_at_call 17; (with_reducible refine (GAccepted_true HL.out (L + (j : Int)) HSJ.out HTD.out).mono ?_); rintro e w6 ⟨rfl, f'⟩; have HLx := hid (fun o => HL.out.quiet (f'.trans (frm_box w6 o))); have HFx := hid (fun o => (below_frm0 HF.out f').alloc (below_frm0 HF.out f').size o); clear HL HF f'))
          go_roundw
          case rel => exact ⟨j + 1, τ, by have := HJ8.out; omega, by go_num, HPS2.out, HFF2.out, HLx.out _, HFx.out _⟩
          case measure => simp [intOf]; have := HJ8.out; omega
        · rcases (show j = 0 ∨ j = 9 ∨ j = 10 ∨ j = 11 by omega) with rfl | rfl | rfl | rfl
          · clear hin8 hj
            have hin : inW L (L + ((0 : Nat) : Int)) = false := decide_eq_false (fun h => by omega)
            have HIN := hid hin
            have HCC := hid (show accC L σ 0 (L + ((0 : Nat) : Int)) 0 0 0 0 0 = 120 by unfold accC; rw [if_neg (by rw [hin]; decide)])
            have HXX := hid (show accX L σ 0 (L + ((0 : Nat) : Int)) 0 0 0 0 0 = σ by unfold accX; rw [if_neg (by rw [hin]; decide)])
            have HTD := hid (show toldS L σ (fun _ => true) (L + ((0 : Nat) : Int)) = false by unfold toldS; rw [hin]; rfl)
            clear hin
            have hT : L + ((0 : Nat) : Int) = L := by simp
            rw [hT] at HIN HCC HXX HTD HSJ e1
            clear hT
            go_wp2_with (first
              | (go_at_call 16; (with_reducible refine (GIn_calls HL.out L HSJ.out false HIN.out).mono ?_); rintro e w' ⟨rfl, rfl⟩; skip)
              | (go_at_call 10; (with_reducible refine (GAccept_calls HL.out HNN.out 0 L 0 0 0 0 0 (by decide) HSJ.out 120 HCC.out σ HXX.out).mono ?_); rintro e w5 ⟨rfl, hl, lf⟩; have HF2 := hid (lf.below HB.out HF.out); clear HF HL; have HF := HF2; clear HF2; have HL := hid hl; clear hl lf)
              | (go_at_call 17; (with_reducible refine (GAccepted_false HL.out L HSJ.out HTD.out).mono ?_); rintro e w6 ⟨rfl, f'⟩; have HLx := hid (fun o => HL.out.quiet (f'.trans (frm_box w6 o))); have HFx := hid (fun o => (below_frm0 HF.out f').alloc (below_frm0 HF.out f').size o); clear HL HF f'))
            go_roundw
            case rel => first | exact ⟨0 + 1, σ, by omega, rfl, HPS.out, HFF.out.skip (by omega), HLx.out _, HFx.out _⟩ | ((repeat apply Exists.intro); refine ⟨?relx, rfl⟩; exact ⟨0 + 1, σ, by omega, rfl, HPS.out, HFF.out.skip (by omega), HLx.out _, HFx.out _⟩)
            case measure => simp [intOf]
          · clear hin8 hj
            have hin : inW L (L + ((9 : Nat) : Int)) = false := decide_eq_false (fun h => by omega)
            have HIN := hid hin
            have HCC := hid (show accC L σ 0 (L + ((9 : Nat) : Int)) 0 0 0 0 0 = 120 by unfold accC; rw [if_neg (by rw [hin]; decide)])
            have HXX := hid (show accX L σ 0 (L + ((9 : Nat) : Int)) 0 0 0 0 0 = σ by unfold accX; rw [if_neg (by rw [hin]; decide)])
            have HTD := hid (show toldS L σ (fun _ => true) (L + ((9 : Nat) : Int)) = false by unfold toldS; rw [hin]; rfl)
            clear hin
            obtain ⟨T, hT⟩ : ∃ T, L + ((9 : Nat) : Int) = T := ⟨_, rfl⟩
            rw [hT] at HIN HCC HXX HTD HSJ e1
            have hT2 : L + 9 = T := by rw [← hT]; rfl
            clear hT
            go_wp2_with (first
              | (go_at_call 16; (with_reducible refine (GIn_calls HL.out T HSJ.out false HIN.out).mono ?_); rintro e w' ⟨rfl, rfl⟩; skip)
              | (go_at_call 10; (with_reducible refine (GAccept_calls HL.out HNN.out 0 T 0 0 0 0 0 (by decide) HSJ.out 120 HCC.out σ HXX.out).mono ?_); rintro e w5 ⟨rfl, hl, lf⟩; have HF2 := hid (lf.below HB.out HF.out); clear HF HL; have HF := HF2; clear HF2; have HL := hid hl; clear hl lf)
              | (go_at_call 17; (with_reducible refine (GAccepted_false HL.out T HSJ.out HTD.out).mono ?_); rintro e w6 ⟨rfl, f'⟩; have HLx := hid (fun o => HL.out.quiet (f'.trans (frm_box w6 o))); have HFx := hid (fun o => (below_frm0 HF.out f').alloc (below_frm0 HF.out f').size o); clear HL HF f'))
            go_roundw
            case rel => first | exact ⟨9 + 1, σ, by omega, rfl, HPS.out, HFF.out.skip (by omega), HLx.out _, HFx.out _⟩ | ((repeat apply Exists.intro); refine ⟨?relx, rfl⟩; exact ⟨9 + 1, σ, by omega, rfl, HPS.out, HFF.out.skip (by omega), HLx.out _, HFx.out _⟩)
            case measure => simp [intOf]
          · clear hin8 hj
            have hin : inW L (L + ((10 : Nat) : Int)) = false := decide_eq_false (fun h => by omega)
            have HIN := hid hin
            have HCC := hid (show accC L σ 0 (L + ((10 : Nat) : Int)) 0 0 0 0 0 = 120 by unfold accC; rw [if_neg (by rw [hin]; decide)])
            have HXX := hid (show accX L σ 0 (L + ((10 : Nat) : Int)) 0 0 0 0 0 = σ by unfold accX; rw [if_neg (by rw [hin]; decide)])
            have HTD := hid (show toldS L σ (fun _ => true) (L + ((10 : Nat) : Int)) = false by unfold toldS; rw [hin]; rfl)
            clear hin
            obtain ⟨T, hT⟩ : ∃ T, L + ((10 : Nat) : Int) = T := ⟨_, rfl⟩
            rw [hT] at HIN HCC HXX HTD HSJ e1
            have hT2 : L + 10 = T := by rw [← hT]; rfl
            clear hT
            go_wp2_with (first
              | (go_at_call 16; (with_reducible refine (GIn_calls HL.out T HSJ.out false HIN.out).mono ?_); rintro e w' ⟨rfl, rfl⟩; skip)
              | (go_at_call 10; (with_reducible refine (GAccept_calls HL.out HNN.out 0 T 0 0 0 0 0 (by decide) HSJ.out 120 HCC.out σ HXX.out).mono ?_); rintro e w5 ⟨rfl, hl, lf⟩; have HF2 := hid (lf.below HB.out HF.out); clear HF HL; have HF := HF2; clear HF2; have HL := hid hl; clear hl lf)
              | (go_at_call 17; (with_reducible refine (GAccepted_false HL.out T HSJ.out HTD.out).mono ?_); rintro e w6 ⟨rfl, f'⟩; have HLx := hid (fun o => HL.out.quiet (f'.trans (frm_box w6 o))); have HFx := hid (fun o => (below_frm0 HF.out f').alloc (below_frm0 HF.out f').size o); clear HL HF f'))
            go_roundw
            case rel => first | exact ⟨10 + 1, σ, by omega, rfl, HPS.out, HFF.out.skip (by omega), HLx.out _, HFx.out _⟩ | ((repeat apply Exists.intro); refine ⟨?relx, rfl⟩; exact ⟨10 + 1, σ, by omega, rfl, HPS.out, HFF.out.skip (by omega), HLx.out _, HFx.out _⟩)
            case measure => simp [intOf]
          · clear hin8 hj
            have hcell := H1.out.at_ (by have := HLT.out; omega)
            obtain ⟨ga, oa, rfl, hga, hca⟩ := hcell
            have hxa := hca i HLT.out
            have wfa : (Lit.int .u8 (z1.getD i 0)).wf = true := H1.out.wf _ (by have := HLT.out; rw [List.getD_eq_getElem?_getD, List.getElem?_eq_getElem HLT.out]; exact List.getElem_mem HLT.out)
            generalize z1.getD i 0 = x at hxa wfa
            have hx := bounds_u8 wfa
            have q0 := (HF.out.cell (p := ⟨ga, oa + i, none⟩) hga).trans hxa
            obtain ⟨r, hr⟩ : ∃ r, x % 12 = r := ⟨_, rfl⟩
            have hr0 : 0 ≤ r := by omega
            have hr12 : r ≤ 11 := by omega
            have hx0 := hx.1
            have hx255 := hx.2
            have e2 : IntKind.u32.wrap r = r := wrap32 (by omega)
            have e3 : IntKind.u32.wrap (L + r) = L + r := wrap32 (by have := HLB.out; omega)
            have e4 : IntKind.u32.wrap (L + 8) = L + 8 := wrap32 (by have := HLB.out; omega)
            have e5 : IntKind.u32.wrap (L + 1) = L + 1 := wrap32 (by have := HLB.out; omega)
            have HR := hid (show 0 ≤ r ∧ r ≤ 11 from ⟨hr0, hr12⟩)
            have HTB := hid (show 0 ≤ L + r ∧ L + r ≤ 4294967295 by have := HLB.out; omega)
            have HLB3 := hid (show 0 ≤ L ∧ L ≤ 4294967295 by have := HLB.out; omega)
            have HM1 := hid (show (if L < L + r then L + r else L) = L + r by split <;> omega)
            have HM2 := hid (show (if L + r < L then L else L + r) = L + r by split <;> omega)
            obtain ⟨τ, hτ⟩ : ∃ τ, cutS (L + r) (cutS (L + r) σ) = τ := ⟨_, rfl⟩
            have HT := hid (fun (q : Nat) (h1 : 1 ≤ q) (h8 : q ≤ 8) => (show toldS (L + r) τ (fun _ => true) (L + q) = decide (r < (q : Int)) from hτ ▸ told_cut hr0 HFF.out q h1 h8))
            have HPT := hid (show PS τ from hτ ▸ (HPS.out.cut _).cut _)
            have HTT := hid hτ
            clear hca wfa hxa hga hx hτ HPS HFF hr12
            go_wp2_with (first
              | (go_at_call 18; (with_reducible refine (GMove_calls HL.out (L + r) (L + r) HTB.out HM1.out).mono ?_); rintro e w8 ⟨rfl, hl, lf⟩; have HF2 := hid (lf.below HB.out HF.out); clear HF HL; have HF := HF2; clear HF2; have HL := hid hl; clear hl lf; have tk := HM1; clear HM1)
              | (go_at_call 18; (with_reducible refine (GMove_calls HL.out L (L + r) HLB3.out HM2.out).mono ?_); rintro e w9 ⟨rfl, hl, lf⟩; have hl2 := hl.cast HTT.out; clear hl; have hl := hl2; clear hl2; have HF2 := hid (lf.below HB.out HF.out); clear HF HL; have HF := HF2; clear HF2; have HL := hid hl; clear hl lf))
            obtain ⟨wo2, hwo2⟩ : ∃ wo : World, wo = w9 := ⟨_, rfl⟩
            subst hwo2
            clear q0 e1 e2 hr
            go_loopw [12] (fun sv wr => ∃ q : Nat, 1 ≤ q ∧ q ≤ 9 ∧ sv = .int .u32 (L + q) ∧ Lg wr w1.heap.size lb (L + r) (11 * i + 11) τ ∧ Below w.heap.size w wr) (fun s _ => 9 - (intOf s - L).toNat)
            case atStart => exact ⟨1, by omega, by omega, rfl, HL.out, HF.out⟩
            case round =>
              clear HL HF
              obtain ⟨q, hq1, hq9, rfl, hl, hf⟩ := hrel
              have HL := hid hl; have HF := hid hf; clear hl hf
              have HSQ := hid (show 0 ≤ L + (q : Int) ∧ L + (q : Int) ≤ 4294967295 by have := HLB.out; omega)
              have e6 : IntKind.u32.wrap (L + (q : Int) + 1) = L + (q : Int) + 1 := wrap32 (by have := HLB.out; omega)
              by_cases hq8 : q ≤ 8
              · have hq8i : L + (q : Int) ≤ L + 8 := by omega
                have HT1 := hid (HT.out q hq1 hq8)
                have HQ := hid hq1; have HQ8 := hid hq8
                clear hq1 hq9 hq8
                by_cases hrq : r < (q : Int)
                · have hgt : L + r < L + (q : Int) := by omega
                  have HT2 := hid (show toldS (L + r) τ (fun _ => true) (L + q) = true by rw [HT1.out]; exact decide_eq_true hrq)
                  clear HT1 hrq
                  go_wp2_with (first
                    | (go_at_call 17; (with_reducible refine (GAccepted_true HL.out (L + (q : Int)) HSQ.out HT2.out).mono ?_); rintro e w10 ⟨rfl, f'⟩; have HLx := hid (fun o => HL.out.quiet (f'.trans (frm_box w10 o))); have HFx := hid (fun o => (below_frm0 HF.out f').alloc (below_frm0 HF.out f').size o); clear HL HF f'))
                  go_roundw
                  case rel => exact ⟨q + 1, by omega, by have := HQ8.out; omega, by congr 1; omega, HLx.out _, HFx.out _⟩
                  case measure => simp [intOf]; have := HQ8.out; omega
                · have hgt : ¬ L + r < L + (q : Int) := by omega
                  have hgt2 : L + (q : Int) ≤ L + r := by omega
                  have HT2 := hid (show toldS (L + r) τ (fun _ => true) (L + q) = false by rw [HT1.out]; exact decide_eq_false hrq)
                  clear HT1 hrq
                  go_wp2_with (first
                    | (go_at_call 17; (with_reducible refine (GAccepted_false HL.out (L + (q : Int)) HSQ.out HT2.out).mono ?_); rintro e w10 ⟨rfl, f'⟩; have HLx := hid (fun o => HL.out.quiet (f'.trans (frm_box w10 o))); have HFx := hid (fun o => (below_frm0 HF.out f').alloc (below_frm0 HF.out f').size o); clear HL HF f'))
                  go_roundw
                  case rel => exact ⟨q + 1, by omega, by have := HQ8.out; omega, by congr 1; omega, HLx.out _, HFx.out _⟩
                  case measure => simp [intOf]; have := HQ8.out; omega
              · have hq8i : ¬ L + (q : Int) ≤ L + 8 := by omega
                have hq8j : L + 8 < L + (q : Int) := by omega
                clear hq1 hq9 hq8
                go_wp2_with (first
                  | (go_at_call 19; (with_reducible refine (GLow_calls HL.out).mono ?_); rintro e w' ⟨rfl, rfl⟩; skip))
                go_roundw
                case rel => exact ⟨i + 1, L + r, τ, by have := HLT.out; omega, rfl, by go_num, HTB.out.1, by have := HLBB.out; have := HR.out; omega, HPT.out, HL.out.more (by omega), HF.out⟩
                case measure => simp [intOf]; have := HLT.out; omega
    · have hil : (z1.length : Int) ≤ (i : Int) := by omega
      clear hlt
      go_wp2
      go_ret
      exact ⟨rfl, HF.out⟩
end Go.Proofs.Ytijomhinfcahpaa
