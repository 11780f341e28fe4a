/- MarksHonest, walked: with one liar, whatever it says, a mark that a quorum has is the honest ones'. For every two rows of numbers. -/
import Derived.Test.YtiffhkhmkigolaaMkAny
import Derived.Test.YtiffhkhmkigolaaArgs
namespace Go.Proofs.Ytiffhkhmkigolaa
open Go.RowKit Go.ChangeShapes
set_option linter.unusedVariables false
set_option linter.unusedSimpArgs false
set_option maxRecDepth 100000
/-- The honest ones' marks are as the state was. -/
def Good (H : Nat → List Mk) : Prop := ∀ i, i < 3 → ∀ m, m ∈ H i → m.2 = m.1 + 100
theorem Good.zero : Good H0 := fun i _ m h => absurd h (by simp [H0])
theorem Good.add {H : Nat → List Mk} (h : Good H) (n : Nat) (m : Mk) (hm : m.2 = m.1 + 100) : Good (addH H n m) := fun i hi x hx => by
  rcases addH_mem hx with h1 | ⟨_, h1⟩
  · exact h i hi x h1
  · rw [h1]; exact hm
theorem Good.lie {H : Nat → List Mk} (h : Good H) (m : Mk) : Good (addH H 3 m) := fun i hi x hx => by
  rw [addH_ne H 3 m (by omega)] at hx
  exact h i hi x hx
theorem two_honest {b : Nat → Bool} {but : Int} (h : 2 ≤ cntB b but) : b 0 = true ∨ b 1 = true ∨ b 2 = true := by
  cases h0 : b 0
  · cases h1 : b 1
    · cases h2 : b 2
      · have e : pc b but 3 = 0 := pc_no (pc_no (pc_no rfl (fun h => by rw [h0] at h; exact absurd h.1 (by decide))) (fun h => by rw [h1] at h; exact absurd h.1 (by decide))) (fun h => by rw [h2] at h; exact absurd h.1 (by decide))
        have : cntB b but ≤ 1 := by
          show pc b but 3 + _ ≤ 1
          rw [e]; split <;> omega
        omega
      · exact .inr (.inr rfl)
    · exact .inr (.inl rfl)
  · exact .inl rfl
/-- What is told is the honest ones'. -/
theorem honest {H : Nat → List Mk} (hG : Good H) {l k but : Int} (hk : 2 ≤ k) {b : Mk} (h : BestR (St H) l k but true b) : b.2 = b.1 + 100 := by
  have h1 := (h.yes rfl).1
  have h2 := two_honest (b := St H b) (but := but) (by have := h1.2.2; omega)
  rcases h2 with h2 | h2 | h2
  · exact hG 0 (by decide) b (of_decide_eq_true h2)
  · exact hG 1 (by decide) b (of_decide_eq_true h2)
  · exact hG 2 (by decide) b (of_decide_eq_true h2)
theorem hon_cases {w : World} {lb mb N : Nat} {H : Nat → List Mk} (hE : IsMs w lb mb N H) (hG : Good H) {l k but : Int} (hk : 2 ≤ k) {fd : Bool} {b : Mk} (h : BestR (St H) l k but fd b) :
    (fd = false ∧ b = (0, 0)) ∨ ∃ s : Int, fd = true ∧ b = (s, s + 100) ∧ 0 ≤ s ∧ s ≤ 4294967295 := by
  cases fd
  · exact .inl ⟨rfl, (h.no rfl).1⟩
  · have h1 := honest hG hk h
    have h2 := hE.okK b (h.yes rfl).1.1
    refine .inr ⟨b.1, rfl, ?_, h2.1.1, h2.1.2⟩
    rw [← h1]
set_option maxHeartbeats 16000000 in
theorem MarksHonest_walk (a0 : Option Addr) (c0 : Nat) (z0 : List Int) (a1 : Option Addr) (c1 : Nat) (z1 : List Int) (w : World) (h0 : IsInts .u8 w a0 c0 z0) (h1 : IsInts .u8 w a1 c1 z1) :
    Calls Try.prog 3 #[.slice a0 z0.length c0, .slice a1 z1.length c1] w fun e w' => e = .returned (.bool true) ∧ Below w.heap.size w w' := by
  have hle := h0.le
  have hsm := h0.small
  have hle1 := h1.le
  have hsm1 := h1.small
  by_cases hlen : z0.length > 20
  · go_enter Try.func3, Try.ntmps3
    go_wp2_with (go_at_call 7; (with_reducible refine (known_calls _).mono ?_); rintro e w1 ⟨rfl, f'⟩; have HW1 := hid f'.size; have HF := hid (f'.below (B := w.heap.size) (Nat.le_refl _) (fun k hk hn => hn)); clear f')
    go_ret
    exact ⟨rfl, HF.out⟩
  by_cases hlen1 : z1.length > 40
  · go_enter Try.func3, Try.ntmps3
    go_wp2_with (go_at_call 7; (with_reducible refine (known_calls _).mono ?_); rintro e w1 ⟨rfl, f'⟩; have HW1 := hid f'.size; have HF := hid (f'.below (B := w.heap.size) (Nat.le_refl _) (fun k hk hn => hn)); clear f')
    go_ret
    exact ⟨rfl, HF.out⟩
  have HWF0 := hid (show ∀ y ∈ z0, 0 ≤ y ∧ y ≤ 255 from fun y hy => (by have := h0.wf y hy; simp [Lit.wf, IntKind.min, IntKind.max, IntKind.bits, IntKind.signed] at this; omega))
  have HWF1 := hid (show ∀ y ∈ z1, 0 ≤ y ∧ y ≤ 255 from fun y hy => (by have := h1.wf y hy; simp [Lit.wf, IntKind.min, IntKind.max, IntKind.bits, IntKind.signed] at this; omega))
  go_enter Try.func3, Try.ntmps3
  go_wp2_with (first
    | (go_at_call 7; (with_reducible refine (known_calls _).mono ?_); rintro e w1 ⟨rfl, f'⟩; have HW1 := hid f'.size; have HF := hid (f'.below (B := w.heap.size) (Nat.le_refl _) (fun k hk hn => hn)); clear f')
    | (go_at_call 8; (with_reducible refine (MsNew_calls _).mono ?_); rintro e w2 ⟨rfl, hv, hf⟩; have HE := hid hv; have HF2 := hid (HF.out.trans (hf.below HF.out.size (fun k hk hn => hn))); clear hv hf HF; have HF := HF2; clear HF2))
  have HH0 := hid h0; have HH1 := hid h1
  have HZ20 := hid (show z0.length ≤ 20 by omega); have HZ40 := hid (show z1.length ≤ 40 by omega)
  obtain ⟨lb, hlb⟩ : ∃ lb, w1.heap.size + 1 = lb := ⟨_, rfl⟩
  obtain ⟨mb, hmb⟩ : ∃ mb, w1.heap.size = mb := ⟨_, rfl⟩
  have HXB := hid (show w.heap.size ≤ mb by have := HW1.out; omega)
  rw [hlb, hmb] at HE
  rw [hlb]
  clear hlb hmb HW1 h0 h1 hlen hlen1
  go_loopw [6] (fun iv wr => ∃ (k : Nat) (H : Nat → List Mk), k ≤ z0.length ∧ iv = .int .i64 k ∧ IsMs wr lb mb (2 * k) H ∧ Good H ∧ Below w.heap.size w wr) (fun i _ => z0.length - (intOf i).toNat)
  case atStart => exact ⟨0, H0, by omega, rfl, HE.out, Good.zero, HF.out⟩
  case round =>
    clear HE HF
    generalize wr = wx at *
    obtain ⟨k, H, hk, rfl, he, hg, hf⟩ := hrel
    have HE := hid he; have HG := hid hg; have HF := hid hf
    clear he hg hf
    by_cases hlt : k < z0.length
    · obtain ⟨ga, off, rfl, hga, hc⟩ := HH0.out.at_ (by omega)
      have hcx : wx.cell? ⟨ga, off + k, none⟩ = some (.int .u8 (z0.getD k 0)) := ((HF.out.cell (p := ⟨ga, off + k, none⟩) hga).trans (hc k hlt))
      have hgy : z0[k]? = some (z0.getD k 0) := by rw [List.getD_eq_getElem?_getD, List.getElem?_eq_getElem hlt]; rfl
      have hwf := HWF0.out _ (List.mem_of_getElem? hgy)
      obtain ⟨y, hy⟩ : ∃ y, z0.getD k 0 = y := ⟨_, rfl⟩
      rw [hy] at hcx hwf
      obtain ⟨q, hq⟩ : ∃ q, y / 3 = q := ⟨_, rfl⟩
      obtain ⟨r, hr⟩ : ∃ r, q % 8 = r := ⟨_, rfl⟩
      obtain ⟨n, hn⟩ : ∃ n : Nat, (y % 3).toNat = n := ⟨_, rfl⟩
      have hq0 : 0 ≤ q := by omega
      obtain ⟨hr0, hr7⟩ : 0 ≤ r ∧ r ≤ 7 := by omega
      have hnt : y.tmod 3 = (n : Int) := by rw [Int.tmod_eq_emod_of_nonneg hwf.1]; omega
      have hqt : IntKind.u8.wrap (y.tdiv 3) = q := by rw [Int.tdiv_eq_ediv_of_nonneg hwf.1, hq]; simp [IntKind.wrap, IntKind.bits, IntKind.signed]; omega
      have hqt2 : y.tdiv 3 % 256 = q := by rw [Int.tdiv_eq_ediv_of_nonneg hwf.1, hq]; omega
      have hrt : q.tmod 8 = r := by rw [Int.tmod_eq_emod_of_nonneg hq0]; exact hr
      have HN4 := hid (show n < 4 by omega)
      have HRB := hid (show 0 ≤ r ∧ r ≤ 7 from ⟨hr0, hr7⟩)
      have HOK := hid (show okK (r * 4, r * 4 + 100) from ⟨⟨by show 0 ≤ r * 4; omega, by show r * 4 ≤ 4294967295; omega⟩, ⟨by show 0 ≤ r * 4 + 100; omega, by show r * 4 + 100 ≤ 18446744073709551615; omega⟩⟩)
      have hkl : (k : Int) < (z0.length : Int) := by omega
      have hk40 : (k : Int) ≤ 20 := by have := HZ20.out; omega
      have HLT := hid hlt
      clear hc hgy hwf hy hq hr hn hq0 hlt hk hga
      go_wp2_with (go_at_call 9; (with_reducible refine (MAdd_any HE.out (by have := HLT.out; have := HZ20.out; omega) n HN4.out n rfl (r * 4, r * 4 + 100) HOK.out (by show r * 4 % 4 = 0; omega) (by show r * 4 ≤ 1073741824; have := HRB.out; omega)).mono ?_); rintro e w3 ⟨⟨z, rfl⟩, he, f'⟩; have HE2 := hid he; have HF2 := hid (HF.out.trans (f'.below HF.out.size (fun k hk e => by have := HXB.out; omega))); clear HE HF he f'; have HE := HE2; have HF := HF2; clear HE2 HF2)
      go_roundw
      case rel => exact ⟨k + 1, _, by have := HLT.out; omega, rfl, HE.out, HG.out.add n (r * 4, r * 4 + 100) rfl, HF.out⟩
      case measure => have := HLT.out; simp [intOf]; omega
    · have hke : k = z0.length := by omega
      subst hke
      clear hlt hk
      go_wp2
      go_loopw [8] (fun iv wr => ∃ (k : Nat) (H : Nat → List Mk), k ≤ z1.length ∧ iv = .int .i64 k ∧ IsMs wr lb mb (40 + 2 * k) H ∧ Good H ∧ Below w.heap.size w wr) (fun i _ => z1.length - (intOf i).toNat)
      case atStart => exact ⟨0, H, by omega, rfl, HE.out.more (by have := HZ20.out; omega), HG.out, HF.out⟩
      case round =>
        clear HE HF HG H
        obtain ⟨k, H, hk, rfl, he, hg, hf⟩ := hrel
        have HE := hid he; have HG := hid hg; have HF := hid hf
        clear he hg hf
        by_cases hlt : k < z1.length
        · obtain ⟨ga, off, rfl, hga, hc⟩ := HH1.out.at_ (by omega)
          have hcx : wr.cell? ⟨ga, off + k, none⟩ = some (.int .u8 (z1.getD k 0)) := ((HF.out.cell (p := ⟨ga, off + k, none⟩) hga).trans (hc k hlt))
          have hgy : z1[k]? = some (z1.getD k 0) := by rw [List.getD_eq_getElem?_getD, List.getElem?_eq_getElem hlt]; rfl
          have hwf := HWF1.out _ (List.mem_of_getElem? hgy)
          obtain ⟨y, hy⟩ : ∃ y, z1.getD k 0 = y := ⟨_, rfl⟩
          rw [hy] at hcx hwf
          obtain ⟨q, hq⟩ : ∃ q, y / 8 = q := ⟨_, rfl⟩
          obtain ⟨r, hr⟩ : ∃ r, y % 8 = r := ⟨_, rfl⟩
          obtain ⟨p, hp⟩ : ∃ p, q % 2 = p := ⟨_, rfl⟩
          have hq0 : 0 ≤ q := by omega
          obtain ⟨hr0, hr7⟩ : 0 ≤ r ∧ r ≤ 7 := by omega
          obtain ⟨hp0, hp1⟩ : 0 ≤ p ∧ p ≤ 1 := by omega
          have hrt : y.tmod 8 = r := by rw [Int.tmod_eq_emod_of_nonneg hwf.1]; exact hr
          have hqt : IntKind.u8.wrap (y.tdiv 8) = q := by rw [Int.tdiv_eq_ediv_of_nonneg hwf.1, hq]; simp [IntKind.wrap, IntKind.bits, IntKind.signed]; omega
          have hqt2 : y.tdiv 8 % 256 = q := by rw [Int.tdiv_eq_ediv_of_nonneg hwf.1, hq]; omega
          have hpt : q.tmod 2 = p := by rw [Int.tmod_eq_emod_of_nonneg hq0]; exact hp
          have HRB := hid (show 0 ≤ r ∧ r ≤ 7 from ⟨hr0, hr7⟩)
          have HOK := hid (show okK (r * 4, r * 4 + 100 + p) from ⟨⟨by show 0 ≤ r * 4; omega, by show r * 4 ≤ 4294967295; omega⟩, ⟨by show 0 ≤ r * 4 + 100 + p; omega, by show r * 4 + 100 + p ≤ 18446744073709551615; omega⟩⟩)
          have hkl : (k : Int) < (z1.length : Int) := by omega
          have hk40 : (k : Int) ≤ 40 := by have := HZ40.out; omega
          have HLT := hid hlt
          clear hc hgy hwf hy hq hr hp hq0 hlt hk hga
          go_wp2_with (go_at_call 9; (with_reducible refine (MAdd_any HE.out (by have := HLT.out; have := HZ40.out; omega) 3 (by decide) 3 rfl (r * 4, r * 4 + 100 + p) HOK.out (by show r * 4 % 4 = 0; omega) (by show r * 4 ≤ 1073741824; have := HRB.out; omega)).mono ?_); rintro e w3 ⟨⟨z, rfl⟩, he, f'⟩; have HE2 := hid he; have HF2 := hid (HF.out.trans (f'.below HF.out.size (fun k hk e => by have := HXB.out; omega))); clear HE HF he f'; have HE := HE2; have HF := HF2; clear HE2 HF2)
          go_roundw
          case rel => exact ⟨k + 1, _, by have := HLT.out; omega, rfl, HE.out, HG.out.lie (r * 4, r * 4 + 100 + p), HF.out⟩
          case measure => have := HLT.out; simp [intOf]; omega
        · have HHN := hid (fun (k : Int) (hk : 2 ≤ k) (fd : Bool) (b : Mk) (h : BestR (St H) 0 k (-1) fd b) => hon_cases HE.out HG.out hk h)
          have hke : k = z1.length := by omega
          subst hke
          clear hlt hk
          go_wp2_with (first
            | (go_at_call 10; (with_reducible refine (MBest_calls HE.out.im HE.out.okK 0 3 (-1) (by decide)).mono ?_); rintro e w5 ⟨b, fd, rfl, hb, f'⟩; have HE2 := hid (HE.out.quiet f'); have HF2 := hid (HF.out.trans (f'.below (HF.out.size) (fun k hk hn => hn))); clear HE HF f'; have HE := HE2; have HF := HF2; clear HE2 HF2; rcases HHN.out 3 (by decide) fd b hb with ⟨rfl, rfl⟩ | ⟨s, rfl, rfl, hs0, hs1⟩ <;> clear hb)
            | (go_at_call 10; (with_reducible refine (MBest_calls (HE.out.quiet (mbox _ _)).im HE.out.okK 0 2 (-1) (by decide)).mono ?_); rintro e w5 ⟨b, fd, rfl, hb, f'⟩; have HX := (Blk.new _ [.int .u32 _, .int .u64 _] TMk).frm f' (fun h => h); have x0 := HX.cell 0; have x1 := HX.cell 1; have hxl := HX.lt; (simp only [List.getElem?_cons_succ, List.getElem?_cons_zero] at x0 x1); clear HX; have HE2 := hid ((HE.out.quiet (mbox _ _)).quiet f'); have HF2 := hid ((HF.out.alloc HF.out.size _).trans (f'.below ((HF.out.alloc HF.out.size _).size) (fun k hk hn => hn))); clear HE HF f'; have HE := HE2; have HF := HF2; clear HE2 HF2; rcases HHN.out 2 (by decide) fd b hb with ⟨rfl, rfl⟩ | ⟨s, rfl, rfl, hs0, hs1⟩ <;> clear hb))
          all_goals (go_ret; exact ⟨rfl, HF.out.alloc HF.out.size _⟩)
end Go.Proofs.Ytiffhkhmkigolaa
