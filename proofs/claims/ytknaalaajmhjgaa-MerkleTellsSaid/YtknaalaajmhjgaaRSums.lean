/- The document's sums: Leaf, Sums, Group, Root, Unlike. -/
import Derived.Test.YtknaalaajmhjgaaRPage
import Derived.Test.YtknaalaajmhjgaaMerk2
import Derived.Test.YtknaalaajmhjgaaMerkLeaf
namespace Go.Proofs.Ytknaalaajmhjgaa
open Go.RowKit Go.ChangeShapes
set_option linter.unusedVariables false
set_option linter.unusedSimpArgs false
set_option maxRecDepth 20000
set_option maxHeartbeats 4000000 in
theorem RLeaf_calls {w : World} (p : Int) {a : Option Addr} {c : Nat} {b : List Int} (n : Nat) (hb : IsInts .u8 w a c b) (hn : b.length = n) (hl : n ≤ 100000) (S : Int) (hS : leafS p b = S) :
    Calls Try.prog 28 #[.int .i64 p, .slice a n c] w fun e w' => e = .returned (.int .u64 S) ∧ Frm (fun _ => False) w w' := by
  obtain ⟨d, hd⟩ : ∃ d, p % 256 = d := ⟨_, rfl⟩
  have hw : IntKind.u8.wrap p = d := by rw [wrap_u8]; exact hd
  have hdw : (Lit.int .u8 d).wf = true := hd ▸ wf8 p
  have hS' : sFrom 14695981039346656037 ([d] ++ b) = S := by rw [← hS, leafS, hd]; rfl
  have HB := hid hb; have HN := hid hn; have HS := hid hS'; have HD := hid hdw
  have HL := hid hl
  clear hb hn hS hS' hdw hl
  go_enter Try.func28, Try.ntmps28
  go_wp2_with (first
    | (at_builtin; refine wpList_more rfl _ _ rfl rfl (own_one w (fun k => k < w.heap.size) (Nat.lt_irrefl _) d HD.out) (fun k hk => by simp; omega) (HB.out.below ((Below.refl _ w).alloc (Nat.le_refl _) _) (Nat.le_refl _)) HN.out (by have := HL.out; simp; omega) rfl rfl ?_; intro a' l' c' wq ho' hf' hat'; have HF := hid (((Below.refl w.heap.size w).alloc (Nat.le_refl _) _).trans (hf'.below (by simp) (fun k hk hn => by simp [Value.ownBlock] at hn; omega))); have HV := hid ho'; clear ho' hf' hat')
    | (go_at_call 14; obtain ⟨a9, c9, e9, hi9, _⟩ := HV.out.ints; cases e9; (with_reducible refine (RSum_calls hi9 _ rfl S HS.out).mono ?_); rintro e w' ⟨rfl, rfl⟩; clear hi9))
  go_ret
  exact ⟨rfl, frm0_of HF.out⟩
theorem u64_b {x : List Int} (hw : ∀ n ∈ x, (Lit.int .u64 n).wf = true) (k : Nat) : 0 ≤ x.getD k 0 ∧ x.getD k 0 < 18446744073709551616 := by
  rw [List.getD_eq_getElem?_getD]
  rcases Nat.lt_or_ge k x.length with h | h
  · rw [List.getElem?_eq_getElem h]
    have := hw _ (List.getElem_mem h)
    simp [Lit.wf, IntKind.min, IntKind.max, IntKind.bits, IntKind.signed] at this
    show 0 ≤ x[k] ∧ x[k] < _
    omega
  · rw [List.getElem?_eq_none h]; exact ⟨by decide, by decide⟩
theorem RGroup_none {w : World} {A : Option Addr} {c n : Nat} (g : Int) (h : n ≠ 8 ∨ g < 0 ∨ 4 ≤ g) :
    Calls Try.prog 30 #[.slice A n c, .int .i64 g] w fun e w' => e = .returned (.int .u64 0) ∧ w = w' := by
  by_cases hn : n = 8
  · subst hn
    have h' : g < 0 ∨ 4 ≤ g := h.resolve_left (fun h => h rfl)
    clear h
    rcases h' with h' | h'
    all_goals
      go_enter Try.func30, Try.ntmps30
      go_wp2
      go_ret
      exact ⟨rfl, by first | rfl | trivial⟩
  · have q : ((n : Int) == 8) = false := beq_eq_false_iff_ne.2 (by omega)
    have q2 : ((n : Int) != 8) = true := bne_iff_ne.2 (by omega)
    clear h
    go_enter Try.func30, Try.ntmps30
    go_wp2
    go_ret
    exact ⟨rfl, by first | rfl | trivial⟩
theorem RGroup_0 {w : World} {A : Option Addr} {c : Nat} {l : List Int} (h : IsInts .u64 w A c l) (hl : l.length = 8) (G : Int) (hG : groupS l 0 = G) :
    Calls Try.prog 30 #[.slice A 8 c, .int .i64 0] w fun e w' => e = .returned (.int .u64 G) ∧ Frm (fun _ => False) w w' := by
  obtain ⟨g, off, rfl, hg, hc⟩ := h.at_ (by omega)
  have hle := h.le
  have hsm := h.small
  have q0 := hc 0 (by omega)
  have q1 := hc 1 (by omega)
  rw [hl] at hle
  rw [groupS, if_pos ⟨hl, by decide, by decide⟩] at hG
  obtain ⟨a, ha⟩ : ∃ a, l.getD 0 0 = a := ⟨_, rfl⟩
  obtain ⟨b, hb⟩ : ∃ b, l.getD 1 0 = b := ⟨_, rfl⟩
  have HG := hid (show mixS a b = G by rw [← ha, ← hb]; exact hG)
  have hwf := h.wf
  have hab := hid (show (0 ≤ a ∧ a < 18446744073709551616 ∧ 0 ≤ b ∧ b < 18446744073709551616) from by rw [← ha, ← hb]; exact ⟨(u64_b hwf _).1, (u64_b hwf _).2, (u64_b hwf _).1, (u64_b hwf _).2⟩)
  clear hwf
  rw [ha] at q0
  rw [hb] at q1
  clear hc h ha hb hG hl
  rw [Nat.add_zero] at q0
  have e0 : IntKind.i64.wrap (2 * 0) = 0 := by decide
  have e1 : IntKind.i64.wrap 0 = 0 := by decide
  have e2 : IntKind.i64.wrap (0 + 1) = 1 := by decide
  have e3 : IntKind.i64.wrap 1 = 1 := by decide
  go_enter Try.func30, Try.ntmps30
  go_wp2
  go_region_held3 (fun wx => wx.cell? ⟨g, off, none⟩ = some (.int .u64 a) ∧ wx.cell? ⟨g, off + 1, none⟩ = some (.int .u64 b)) (first | go_keep | exact ⟨(HF.out.cell (p := ⟨g, _, none⟩) hg (fun h => h)).trans q0, (HF.out.cell (p := ⟨g, _, none⟩) hg (fun h => h)).trans q1⟩) ((go_at_call 9; (with_reducible refine (RMix_calls a b _ hab.out.1 hab.out.2.1 hab.out.2.2.1 hab.out.2.2.2 G HG.out).mono ?_); rintro e w' ⟨rfl, f'⟩; have HF := hid f'; clear f'))
  go_wp2
  go_ret
  exact ⟨rfl, ⟨HF.out.os, HF.out.tape, HF.out.output, HF.out.size, HF.out.block⟩⟩
theorem RGroup_1 {w : World} {A : Option Addr} {c : Nat} {l : List Int} (h : IsInts .u64 w A c l) (hl : l.length = 8) (G : Int) (hG : groupS l 1 = G) :
    Calls Try.prog 30 #[.slice A 8 c, .int .i64 1] w fun e w' => e = .returned (.int .u64 G) ∧ Frm (fun _ => False) w w' := by
  obtain ⟨g, off, rfl, hg, hc⟩ := h.at_ (by omega)
  have hle := h.le
  have hsm := h.small
  have q0 := hc 2 (by omega)
  have q1 := hc 3 (by omega)
  rw [hl] at hle
  rw [groupS, if_pos ⟨hl, by decide, by decide⟩] at hG
  obtain ⟨a, ha⟩ : ∃ a, l.getD 2 0 = a := ⟨_, rfl⟩
  obtain ⟨b, hb⟩ : ∃ b, l.getD 3 0 = b := ⟨_, rfl⟩
  have HG := hid (show mixS a b = G by rw [← ha, ← hb]; exact hG)
  have hwf := h.wf
  have hab := hid (show (0 ≤ a ∧ a < 18446744073709551616 ∧ 0 ≤ b ∧ b < 18446744073709551616) from by rw [← ha, ← hb]; exact ⟨(u64_b hwf _).1, (u64_b hwf _).2, (u64_b hwf _).1, (u64_b hwf _).2⟩)
  clear hwf
  rw [ha] at q0
  rw [hb] at q1
  clear hc h ha hb hG hl
  have e0 : IntKind.i64.wrap (2 * 1) = 2 := by decide
  have e1 : IntKind.i64.wrap 2 = 2 := by decide
  have e2 : IntKind.i64.wrap (2 + 1) = 3 := by decide
  have e3 : IntKind.i64.wrap 3 = 3 := by decide
  go_enter Try.func30, Try.ntmps30
  go_wp2
  go_region_held3 (fun wx => wx.cell? ⟨g, off + 2, none⟩ = some (.int .u64 a) ∧ wx.cell? ⟨g, off + 3, none⟩ = some (.int .u64 b)) (first | go_keep | exact ⟨(HF.out.cell (p := ⟨g, _, none⟩) hg (fun h => h)).trans q0, (HF.out.cell (p := ⟨g, _, none⟩) hg (fun h => h)).trans q1⟩) ((go_at_call 9; (with_reducible refine (RMix_calls a b _ hab.out.1 hab.out.2.1 hab.out.2.2.1 hab.out.2.2.2 G HG.out).mono ?_); rintro e w' ⟨rfl, f'⟩; have HF := hid f'; clear f'))
  go_wp2
  go_ret
  exact ⟨rfl, ⟨HF.out.os, HF.out.tape, HF.out.output, HF.out.size, HF.out.block⟩⟩
theorem RGroup_2 {w : World} {A : Option Addr} {c : Nat} {l : List Int} (h : IsInts .u64 w A c l) (hl : l.length = 8) (G : Int) (hG : groupS l 2 = G) :
    Calls Try.prog 30 #[.slice A 8 c, .int .i64 2] w fun e w' => e = .returned (.int .u64 G) ∧ Frm (fun _ => False) w w' := by
  obtain ⟨g, off, rfl, hg, hc⟩ := h.at_ (by omega)
  have hle := h.le
  have hsm := h.small
  have q0 := hc 4 (by omega)
  have q1 := hc 5 (by omega)
  rw [hl] at hle
  rw [groupS, if_pos ⟨hl, by decide, by decide⟩] at hG
  obtain ⟨a, ha⟩ : ∃ a, l.getD 4 0 = a := ⟨_, rfl⟩
  obtain ⟨b, hb⟩ : ∃ b, l.getD 5 0 = b := ⟨_, rfl⟩
  have HG := hid (show mixS a b = G by rw [← ha, ← hb]; exact hG)
  have hwf := h.wf
  have hab := hid (show (0 ≤ a ∧ a < 18446744073709551616 ∧ 0 ≤ b ∧ b < 18446744073709551616) from by rw [← ha, ← hb]; exact ⟨(u64_b hwf _).1, (u64_b hwf _).2, (u64_b hwf _).1, (u64_b hwf _).2⟩)
  clear hwf
  rw [ha] at q0
  rw [hb] at q1
  clear hc h ha hb hG hl
  have e0 : IntKind.i64.wrap (2 * 2) = 4 := by decide
  have e1 : IntKind.i64.wrap 4 = 4 := by decide
  have e2 : IntKind.i64.wrap (4 + 1) = 5 := by decide
  have e3 : IntKind.i64.wrap 5 = 5 := by decide
  go_enter Try.func30, Try.ntmps30
  go_wp2
  go_region_held3 (fun wx => wx.cell? ⟨g, off + 4, none⟩ = some (.int .u64 a) ∧ wx.cell? ⟨g, off + 5, none⟩ = some (.int .u64 b)) (first | go_keep | exact ⟨(HF.out.cell (p := ⟨g, _, none⟩) hg (fun h => h)).trans q0, (HF.out.cell (p := ⟨g, _, none⟩) hg (fun h => h)).trans q1⟩) ((go_at_call 9; (with_reducible refine (RMix_calls a b _ hab.out.1 hab.out.2.1 hab.out.2.2.1 hab.out.2.2.2 G HG.out).mono ?_); rintro e w' ⟨rfl, f'⟩; have HF := hid f'; clear f'))
  go_wp2
  go_ret
  exact ⟨rfl, ⟨HF.out.os, HF.out.tape, HF.out.output, HF.out.size, HF.out.block⟩⟩
theorem RGroup_3 {w : World} {A : Option Addr} {c : Nat} {l : List Int} (h : IsInts .u64 w A c l) (hl : l.length = 8) (G : Int) (hG : groupS l 3 = G) :
    Calls Try.prog 30 #[.slice A 8 c, .int .i64 3] w fun e w' => e = .returned (.int .u64 G) ∧ Frm (fun _ => False) w w' := by
  obtain ⟨g, off, rfl, hg, hc⟩ := h.at_ (by omega)
  have hle := h.le
  have hsm := h.small
  have q0 := hc 6 (by omega)
  have q1 := hc 7 (by omega)
  rw [hl] at hle
  rw [groupS, if_pos ⟨hl, by decide, by decide⟩] at hG
  obtain ⟨a, ha⟩ : ∃ a, l.getD 6 0 = a := ⟨_, rfl⟩
  obtain ⟨b, hb⟩ : ∃ b, l.getD 7 0 = b := ⟨_, rfl⟩
  have HG := hid (show mixS a b = G by rw [← ha, ← hb]; exact hG)
  have hwf := h.wf
  have hab := hid (show (0 ≤ a ∧ a < 18446744073709551616 ∧ 0 ≤ b ∧ b < 18446744073709551616) from by rw [← ha, ← hb]; exact ⟨(u64_b hwf _).1, (u64_b hwf _).2, (u64_b hwf _).1, (u64_b hwf _).2⟩)
  clear hwf
  rw [ha] at q0
  rw [hb] at q1
  clear hc h ha hb hG hl
  have e0 : IntKind.i64.wrap (2 * 3) = 6 := by decide
  have e1 : IntKind.i64.wrap 6 = 6 := by decide
  have e2 : IntKind.i64.wrap (6 + 1) = 7 := by decide
  have e3 : IntKind.i64.wrap 7 = 7 := by decide
  go_enter Try.func30, Try.ntmps30
  go_wp2
  go_region_held3 (fun wx => wx.cell? ⟨g, off + 6, none⟩ = some (.int .u64 a) ∧ wx.cell? ⟨g, off + 7, none⟩ = some (.int .u64 b)) (first | go_keep | exact ⟨(HF.out.cell (p := ⟨g, _, none⟩) hg (fun h => h)).trans q0, (HF.out.cell (p := ⟨g, _, none⟩) hg (fun h => h)).trans q1⟩) ((go_at_call 9; (with_reducible refine (RMix_calls a b _ hab.out.1 hab.out.2.1 hab.out.2.2.1 hab.out.2.2.2 G HG.out).mono ?_); rintro e w' ⟨rfl, f'⟩; have HF := hid f'; clear f'))
  go_wp2
  go_ret
  exact ⟨rfl, ⟨HF.out.os, HF.out.tape, HF.out.output, HF.out.size, HF.out.block⟩⟩
theorem RGroup_calls {w : World} {A : Option Addr} {c : Nat} {l : List Int} (n : Nat) (h : IsInts .u64 w A c l) (hn : l.length = n) (g : Int) (G : Int) (hG : groupS l g = G) :
    Calls Try.prog 30 #[.slice A n c, .int .i64 g] w fun e w' => e = .returned (.int .u64 G) ∧ Frm (fun _ => False) w w' := by
  by_cases hc : l.length = 8 ∧ 0 ≤ g ∧ g < 4
  · obtain ⟨h8, g0, g4⟩ := hc
    obtain rfl : n = 8 := by omega
    have hg : g = 0 ∨ g = 1 ∨ g = 2 ∨ g = 3 := by omega
    rcases hg with rfl | rfl | rfl | rfl
    · exact RGroup_0 h h8 G hG
    · exact RGroup_1 h h8 G hG
    · exact RGroup_2 h h8 G hG
    · exact RGroup_3 h h8 G hG
  · rw [groupS, if_neg hc] at hG
    subst hG
    refine (RGroup_none g (by omega)).mono ?_
    rintro e w' ⟨rfl, rfl⟩
    exact ⟨rfl, Frm.refl _ _⟩
theorem groupS_bd (l : List Int) (g : Int) : 0 ≤ groupS l g ∧ groupS l g < 18446744073709551616 := by
  unfold groupS; split
  · exact mixS_bd _ _
  · decide
set_option maxHeartbeats 4000000 in
theorem RRoot_calls {w : World} {A : Option Addr} {c : Nat} {l : List Int} (n : Nat) (h : IsInts .u64 w A c l) (hn : l.length = n) (S : Int) (hS : rootS l = S) :
    Calls Try.prog 29 #[.slice A n c] w fun e w' => e = .returned (.int .u64 S) ∧ Frm (fun _ => False) w w' := by
  by_cases h8 : n = 8
  · subst h8
    rw [rootS, if_pos hn] at hS
    obtain ⟨g0, hg0⟩ : ∃ g, groupS l 0 = g := ⟨_, rfl⟩
    obtain ⟨g1, hg1⟩ : ∃ g, groupS l 1 = g := ⟨_, rfl⟩
    obtain ⟨g2, hg2⟩ : ∃ g, groupS l 2 = g := ⟨_, rfl⟩
    obtain ⟨g3, hg3⟩ : ∃ g, groupS l 3 = g := ⟨_, rfl⟩
    rw [hg0, hg1, hg2, hg3] at hS
    obtain ⟨m0, hm0⟩ : ∃ m, mixS g0 g1 = m := ⟨_, rfl⟩
    obtain ⟨m1, hm1⟩ : ∃ m, mixS g2 g3 = m := ⟨_, rfl⟩
    rw [hm0, hm1] at hS
    have HG0 := hid hg0; have HG1 := hid hg1; have HG2 := hid hg2; have HG3 := hid hg3; have Hm0 := hid hm0; have Hm1 := hid hm1; have HS := hid hS
    have B0 := hid (show 0 ≤ g0 ∧ g0 < 18446744073709551616 from hg0 ▸ groupS_bd l 0)
    have B1 := hid (show 0 ≤ g1 ∧ g1 < 18446744073709551616 from hg1 ▸ groupS_bd l 1)
    have B2 := hid (show 0 ≤ g2 ∧ g2 < 18446744073709551616 from hg2 ▸ groupS_bd l 2)
    have B3 := hid (show 0 ≤ g3 ∧ g3 < 18446744073709551616 from hg3 ▸ groupS_bd l 3)
    have BM0 := hid (show 0 ≤ m0 ∧ m0 < 18446744073709551616 from hm0 ▸ mixS_bd _ _)
    have BM1 := hid (show 0 ≤ m1 ∧ m1 < 18446744073709551616 from hm1 ▸ mixS_bd _ _)
    have HX := hid h; have HN8 := hid hn; have HF := hid (Frm.refl (fun _ => False) w)
    clear h hn hS hg0 hg1 hg2 hg3 hm0 hm1
    go_enter Try.func29, Try.ntmps29
    go_wp2_with (first
      | (go_at_call 30; (with_reducible refine (RGroup_calls 8 HX.out HN8.out 0 g0 HG0.out).mono ?_); rintro e w1 ⟨rfl, f'⟩; have n0_ := hid (HX.out.frm f' (fun _ _ h => h)); have n1_ := hid (HF.out.trans f'); clear HX HF f'; have HX := n0_; have HF := n1_; clear n0_ n1_)
      | (go_at_call 30; (with_reducible refine (RGroup_calls 8 HX.out HN8.out 1 g1 HG1.out).mono ?_); rintro e w2 ⟨rfl, f'⟩; have n0_ := hid (HX.out.frm f' (fun _ _ h => h)); have n1_ := hid (HF.out.trans f'); clear HX HF f'; have HX := n0_; have HF := n1_; clear n0_ n1_)
      | (go_at_call 30; (with_reducible refine (RGroup_calls 8 HX.out HN8.out 2 g2 HG2.out).mono ?_); rintro e w3 ⟨rfl, f'⟩; have n0_ := hid (HX.out.frm f' (fun _ _ h => h)); have n1_ := hid (HF.out.trans f'); clear HX HF f'; have HX := n0_; have HF := n1_; clear n0_ n1_)
      | (go_at_call 30; (with_reducible refine (RGroup_calls 8 HX.out HN8.out 3 g3 HG3.out).mono ?_); rintro e w4 ⟨rfl, f'⟩; have n0_ := hid (HX.out.frm f' (fun _ _ h => h)); have n1_ := hid (HF.out.trans f'); clear HX HF f'; have HX := n0_; have HF := n1_; clear n0_ n1_)
      | (go_at_call 9; (with_reducible refine (RMix_calls g0 g1 _ B0.out.1 B0.out.2 B1.out.1 B1.out.2 m0 Hm0.out).mono ?_); rintro e w9 ⟨rfl, f'⟩; have n0_ := hid (HX.out.frm f' (fun _ _ h => h)); have n1_ := hid (HF.out.trans f'); clear HX HF f'; have HX := n0_; have HF := n1_; clear n0_ n1_)
      | (go_at_call 9; (with_reducible refine (RMix_calls g2 g3 _ B2.out.1 B2.out.2 B3.out.1 B3.out.2 m1 Hm1.out).mono ?_); rintro e w9 ⟨rfl, f'⟩; have n0_ := hid (HX.out.frm f' (fun _ _ h => h)); have n1_ := hid (HF.out.trans f'); clear HX HF f'; have HX := n0_; have HF := n1_; clear n0_ n1_)
      | (go_at_call 9; (with_reducible refine (RMix_calls m0 m1 _ BM0.out.1 BM0.out.2 BM1.out.1 BM1.out.2 S HS.out).mono ?_); rintro e w9 ⟨rfl, f'⟩; have n0_ := hid (HX.out.frm f' (fun _ _ h => h)); have n1_ := hid (HF.out.trans f'); clear HX HF f'; have HX := n0_; have HF := n1_; clear n0_ n1_))
    go_ret
    exact ⟨rfl, HF.out⟩
  · rw [rootS, if_neg (by omega)] at hS
    subst hS
    have q : ((n : Int) == 8) = false := beq_eq_false_iff_ne.2 (by omega)
    have q2 : ((n : Int) != 8) = true := bne_iff_ne.2 (by omega)
    clear h hn h8
    go_enter Try.func29, Try.ntmps29
    go_wp2
    go_ret
    exact ⟨rfl, Frm.refl _ _⟩
theorem RPage_at {w : World} {b : Nat} {vs cs : List Int} (h : IsRM w b vs cs) (h00 : cs.getD 0 0 = 0) (p : Nat) (hp : p ≤ 7) :
    Calls Try.prog 42 #[.pointer (some ⟨b, 0, none⟩), .int .i64 p] w fun e w' => ∃ a c, e = .returned (.slice a (pageB vs cs p).length c) ∧ IsInts .u8 w' a c (pageB vs cs p) ∧ Below w.heap.size w w' := by
  by_cases h7 : p = 7
  · subst h7
    refine (RPage_clis h h00 _ rfl).mono ?_
    rintro e w' ⟨v, rfl, ho, f⟩
    obtain ⟨a, c, rfl, hi, _⟩ := ho.ints
    exact ⟨_, _, rfl, hi, f⟩
  · refine (RPage_vals h p (by omega)).mono ?_
    rintro e w' ⟨v, rfl, ho, f⟩
    obtain ⟨a, c, rfl, hi, _⟩ := ho.ints
    exact ⟨_, _, rfl, hi, f⟩
def sumsR (vs cs : List Int) (n : Nat) : List Int := (List.range n).map fun p : Nat => leafS (p : Int) (pageB vs cs p)
theorem sumsR_succ (vs cs : List Int) (n : Nat) : sumsR vs cs (n + 1) = sumsR vs cs n ++ [leafS n (pageB vs cs n)] := by
  unfold sumsR; rw [List.range_succ, List.map_append]; rfl
theorem sumsR_len (vs cs : List Int) (n : Nat) : (sumsR vs cs n).length = n := by simp [sumsR]
theorem sumsR_8 (vs cs : List Int) : sumsR vs cs 8 = sumsL vs cs := by simp [sumsR, sumsL, List.range_succ]
set_option maxHeartbeats 4000000 in
theorem RSums_calls {w : World} {b : Nat} {vs cs : List Int} (h : IsRM w b vs cs) (h00 : cs.getD 0 0 = 0) (L : List Int) (hL : sumsL vs cs = L) :
    Calls Try.prog 26 #[.pointer (some ⟨b, 0, none⟩)] w fun e w' => ∃ a c, e = .returned (.slice a 8 c) ∧ IsInts .u64 w' a c L ∧ Below w.heap.size w w' := by
  have hmw := hid h.blk.lt
  have HM0 := hid h; have H00 := hid h00; have HL := hid hL
  clear h h00 hL
  go_enter Try.func26, Try.ntmps26
  go_wp2
  go_loopw [3, 4] (fun lv pv wr => ∃ p : Nat, p ≤ 8 ∧ pv = .int .i64 p ∧ OwnBU wr (fun k => k < w.heap.size) lv (sumsR vs cs p) ∧ IsRM wr b vs cs ∧ Below w.heap.size w wr) (fun _ pv _ => 8 - (intOf pv).toNat)
  case atStart => exact ⟨0, by omega, rfl, OwnBU.nil _ _, HM0.out, Below.refl _ _⟩
  case round =>
    clear HM0
    obtain ⟨p, hp, rfl, ho, hm, hf⟩ := hrel
    have HO := hid ho; have HM := hid hm; have HF := hid hf
    clear ho hm hf
    by_cases hlt : p < 8
    · have hpi : (p : Int) < 8 := by omega
      have HP7 := hid (show p ≤ 7 by omega)
      have HPN := hid (show (pageB vs cs p).length ≤ 100000 by have := page_len vs cs p; omega)
      obtain ⟨S, hS⟩ : ∃ S, leafS (p : Int) (pageB vs cs p) = S := ⟨_, rfl⟩
      have HS := hid hS
      have HWF := hid (show (Lit.int .u64 S).wf = true from hS ▸ wf_leaf vs cs p p)
      have HSC := hid (show sumsR vs cs (p + 1) = sumsR vs cs p ++ [S] by rw [sumsR_succ, hS])
      have HLN := hid (show (sumsR vs cs p).length + 1 ≤ 1000000 by rw [sumsR_len]; omega)
      clear hS hlt hp
      go_wp2_with (first
        | (go_at_call 42; (with_reducible refine (RPage_at HM.out H00.out p HP7.out).mono ?_); rintro e w9 ⟨a1, c1, rfl, hi, f'⟩; have HI := hid hi; have n0_ := hid (HM.out.frm (frm0_of f') (fun h => h)); have n1_ := hid (HO.out.frm0 (frm0_of f')); have n2_ := hid (below_next HF.out f'); clear HM HO HF; have HM := n0_; clear n0_; have HO := n1_; clear n1_; have HF := n2_; clear n2_; clear f' hi)
        | (go_at_call 28; (with_reducible refine (RLeaf_calls (p : Int) _ HI.out rfl HPN.out S HS.out).mono ?_); rintro e w10 ⟨rfl, f'⟩; have n0_ := hid (HM.out.frm f' (fun h => h)); have n1_ := hid (HO.out.frm0 f'); have n2_ := hid (below_frm0 HF.out f'); clear HM HO HF; have HM := n0_; clear n0_; have HO := n1_; clear n1_; have HF := n2_; clear n2_; clear f' HI)
        | (at_builtin; refine wpList_moreU rfl _ _ rfl rfl (HO.out.frm0 (frm_box w10 _)) (fun k hk => by have := HF.out.size; simp; omega) (one_intsU w10 S _ HWF.out) (show ([S] : List Int).length = 1 from rfl) HLN.out rfl rfl ?_; intro a' l' c' w11 ho' hf' hat'; have HM2 := hid ((HM.out.frm (frm_box w10 _) (fun h => h)).frm hf' (fun e => HO.out.off _ e hmw.out)); have HF2 := hid ((HF.out.alloc HF.out.size _).trans (hf'.below (by have := HF.out.size; simp; omega) (fun k hk hn => HO.out.off k hn hk))); clear HF HO HM hf' hat'; have HF := HF2; have HM := HM2; have HO := hid ho'; clear ho' HF2 HM2))
      go_roundw
      case rel => exact ⟨p + 1, by have := HP7.out; omega, by go_num, by rw [HSC.out]; exact HO.out, HM.out, HF.out⟩
      case measure => simp [intOf]; have := HP7.out; omega
    · obtain rfl : p = 8 := by omega
      clear hlt hp
      go_wp2
      go_ret
      obtain ⟨a9, c9, e9, hi9, _⟩ := HO.out.ints
      rw [sumsR_len] at e9
      cases e9
      rw [sumsR_8, HL.out] at hi9
      exact ⟨_, _, rfl, hi9, HF.out⟩
theorem RRootM_calls {w : World} {b : Nat} {vs cs : List Int} (h : IsRM w b vs cs) (h00 : cs.getD 0 0 = 0) (S : Int) (hS : rootS (sumsL vs cs) = S) :
    Calls Try.prog 27 #[.pointer (some ⟨b, 0, none⟩)] w fun e w' => e = .returned (.int .u64 S) ∧ Below w.heap.size w w' := by
  have HM := hid h; have H00 := hid h00; have HS := hid hS
  clear h h00 hS
  go_enter Try.func27, Try.ntmps27
  go_wp2_with (first
    | (go_at_call 26; (with_reducible refine (RSums_calls HM.out H00.out _ rfl).mono ?_); rintro e w1 ⟨a, c, rfl, hi, f'⟩; have HI := hid hi; have HF := hid f'; clear hi f')
    | (go_at_call 29; (with_reducible refine (RRoot_calls 8 HI.out rfl S HS.out).mono ?_); rintro e w2 ⟨rfl, f'⟩; have n0_ := hid (below_frm0 HF.out f'); clear HF f'; have HF := n0_; clear n0_))
  go_ret
  exact ⟨rfl, HF.out⟩
set_option maxHeartbeats 8000000 in
theorem RUnlike_a {w : World} {A B : Option Addr} {c d : Nat} {x y : List Int} (n m : Nat) (hn : x.length = n) (hne : n ≠ 8) :
    Calls Try.prog 31 #[.slice A n c, .slice B m d] w fun e w' => ∃ a c', e = .returned (.slice a (unl x y 8).length c') ∧ IsInts .i64 w' a c' (unl x y 8) ∧ Frm (fun _ => False) w w' := by
  have HDIF : ∀ {k : Nat}, Hid (x.length ≠ 8 ∨ y.length ≠ 8 ∨ x.getD k 0 ≠ y.getD k 0) := fun {k} => hid (.inl (by omega))
  have q1 : ((n : Int) == 8) = false := beq_eq_false_iff_ne.2 (by omega)
  have q2 : ((n : Int) != 8) = true := bne_iff_ne.2 (by omega)
  clear hn hne
  go_enter Try.func31, Try.ntmps31
  go_wp2
  go_loopw [5, 6] (fun ov i wr => ∃ (k : Nat) (a : Option Addr) (l c' : Nat), k ≤ 8 ∧ ov = .slice a l c' ∧ i = .int .i64 k ∧ OwnBI wr (fun k => k < w.heap.size) (.slice a l c') (unl x y k) ∧ Below w.heap.size w wr) (fun _ i _ => 8 - (intOf i).toNat)
  case atStart => exact ⟨0, none, 0, 0, by omega, rfl, rfl, OwnBI.nil _ _, Below.refl _ _⟩
  case round =>
    obtain ⟨k, a, l, c', hk, rfl, rfl, hv, hf⟩ := hrel
    have HV := hid hv; have HF := hid hf; clear hv hf
    by_cases hlt : k < 8
    · have hk8 := hid (show k ≤ 8 by omega)
      have hk7 : (k : Int) < 8 := by omega
      have HLN := hid (show (unl x y k).length + 1 ≤ 1000000 by have := unl_len x y k; omega)
      · have HSC := hid (show unl x y (k + 1) = unl x y k ++ [(k : Int)] by rw [unl_succ, if_pos HDIF.out])
        go_wp2
        refine wp_region_held_drew (S := fun wx => True) (by kernel_rfl) (by trivial) (fun hHeld => ?_)
        refine wpAnyH_take (i := 0) (oi := ⟨some 11, _, _, _, _, _⟩) (v := ?v1) rfl (by kernel_rfl) (by kernel_rfl) (by kernel_rfl) (fun _ _ _ h => h) (Or.inl ⟨by rfl, ?y1⟩) (by assumption) ?r1
        case y1 => (intro wx hSx; (try dsimp only at hSx); go_simp; (try with_reducible rfl))
        try simp only [Act.put, List.setIfInBounds_toArray, List.set_cons_zero, List.set_cons_succ]
        refine wpAnyH_take (i := 1) (oi := ⟨some 12, _, _, _, _, _⟩) (v := ?v2) rfl (by kernel_rfl) (by kernel_rfl) (by kernel_rfl) (fun _ _ _ h => h) (Or.inl ⟨by rfl, ?y2⟩) (by assumption) ?r2
        case y2 => (intro wx hSx; (try dsimp only at hSx); go_simp; (try with_reducible rfl))
        try simp only [Act.put, List.setIfInBounds_toArray, List.set_cons_zero, List.set_cons_succ]
        refine wpAnyH_take (i := 2) (oi := ⟨some 13, _, _, _, _, _⟩) (v := ?v3) rfl (by kernel_rfl) (by kernel_rfl) (by kernel_rfl) (fun _ _ _ h => h) (Or.inl ⟨by rfl, ?y3⟩) (by assumption) ?r3
        case y3 => (intro wx hSx; (try dsimp only at hSx); go_simp; (try with_reducible rfl))
        try simp only [Act.put, List.setIfInBounds_toArray, List.set_cons_zero, List.set_cons_succ]
        refine wpAnyH_take (i := 3) (oi := ⟨some 14, _, _, _, _, _⟩) (v := ?v4) rfl (by kernel_rfl) (by kernel_rfl) (by kernel_rfl) (fun _ _ _ h => h) (Or.inl ⟨by rfl, ?y4⟩) (by assumption) ?r4
        case y4 => (intro wx hSx; (try dsimp only at hSx); go_simp; (try with_reducible rfl))
        try simp only [Act.put, List.setIfInBounds_toArray, List.set_cons_zero, List.set_cons_succ]
        refine wpAnyH_take (i := 4) (oi := ⟨some 15, _, _, _, _, _⟩) (v := undef) rfl (by kernel_rfl) (by kernel_rfl) (by kernel_rfl) (fun _ _ _ h => h) (Or.inr ⟨by rfl, rfl⟩) (by assumption) ?_
        try simp only [Act.put, List.setIfInBounds_toArray, List.set_cons_zero, List.set_cons_succ]
        refine wpAnyH_take (i := 5) (oi := ⟨some 16, _, _, _, _, _⟩) (v := undef) rfl (by kernel_rfl) (by kernel_rfl) (by kernel_rfl) (fun _ _ _ h => h) (Or.inr ⟨by rfl, rfl⟩) (by assumption) ?_
        try simp only [Act.put, List.setIfInBounds_toArray, List.set_cons_zero, List.set_cons_succ]
        refine wpAnyH_take (i := 6) (oi := ⟨some 17, _, _, _, _, _⟩) (v := undef) rfl (by kernel_rfl) (by kernel_rfl) (by kernel_rfl) (fun _ _ _ h => h) (Or.inr ⟨by rfl, rfl⟩) (by assumption) ?_
        try simp only [Act.put, List.setIfInBounds_toArray, List.set_cons_zero, List.set_cons_succ]
        refine wpAnyH_take (i := 7) (oi := ⟨some 18, _, _, _, _, _⟩) (v := ?v5) rfl (by kernel_rfl) (by kernel_rfl) (by kernel_rfl) (fun _ _ _ h => h) (Or.inl ⟨by rfl, ?y5⟩) (by assumption) ?r5
        case y5 => (intro wx hSx; (try dsimp only at hSx); go_simp; (try with_reducible rfl))
        try simp only [Act.put, List.setIfInBounds_toArray, List.set_cons_zero, List.set_cons_succ]
        refine wpAnyH_take (i := 8) (oi := ⟨some 19, _, _, _, _, _⟩) (v := ?v6) rfl (by kernel_rfl) (by kernel_rfl) (by kernel_rfl) (fun _ _ _ h => h) (Or.inl ⟨by rfl, ?y6⟩) (by assumption) ?r6
        case y6 => (intro wx hSx; (try dsimp only at hSx); go_simp; (try with_reducible rfl))
        try simp only [Act.put, List.setIfInBounds_toArray, List.set_cons_zero, List.set_cons_succ]
        refine wpAnyH_take (i := 9) (oi := ⟨some 20, _, _, _, _, _⟩) (v := undef) rfl (by kernel_rfl) (by kernel_rfl) (by kernel_rfl) (fun _ _ _ h => h) (Or.inr ⟨by rfl, rfl⟩) (by assumption) ?_
        try simp only [Act.put, List.setIfInBounds_toArray, List.set_cons_zero, List.set_cons_succ]
        refine wpAnyH_take (i := 10) (oi := ⟨some 21, _, _, _, _, _⟩) (v := undef) rfl (by kernel_rfl) (by kernel_rfl) (by kernel_rfl) (fun _ _ _ h => h) (Or.inr ⟨by rfl, rfl⟩) (by assumption) ?_
        try simp only [Act.put, List.setIfInBounds_toArray, List.set_cons_zero, List.set_cons_succ]
        refine wpAnyH_take (i := 11) (oi := ⟨some 22, _, _, _, _, _⟩) (v := undef) rfl (by kernel_rfl) (by kernel_rfl) (by kernel_rfl) (fun _ _ _ h => h) (Or.inr ⟨by rfl, rfl⟩) (by assumption) ?_
        try simp only [Act.put, List.setIfInBounds_toArray, List.set_cons_zero, List.set_cons_succ]
        refine wpAnyH_take (i := 12) (oi := ⟨some 23, _, _, _, _, _⟩) (v := undef) rfl (by kernel_rfl) (by kernel_rfl) (by kernel_rfl) (fun _ _ _ h => h) (Or.inr ⟨by rfl, rfl⟩) (by assumption) ?_
        try simp only [Act.put, List.setIfInBounds_toArray, List.set_cons_zero, List.set_cons_succ]
        refine wpAnyH_take (i := 13) (oi := ⟨some 24, _, _, _, _, _⟩) (v := undef) rfl (by kernel_rfl) (by kernel_rfl) (by kernel_rfl) (fun _ _ _ h => h) (Or.inr ⟨by rfl, rfl⟩) (by assumption) ?_
        try simp only [Act.put, List.setIfInBounds_toArray, List.set_cons_zero, List.set_cons_succ]
        refine wpAnyH_take (i := 14) (oi := ⟨some 25, _, _, _, _, _⟩) (v := undef) rfl (by kernel_rfl) (by kernel_rfl) (by kernel_rfl) (fun _ _ _ h => h) (Or.inr ⟨by rfl, rfl⟩) (by assumption) ?_
        try simp only [Act.put, List.setIfInBounds_toArray, List.set_cons_zero, List.set_cons_succ]
        refine wpAnyH_take (i := 15) (oi := ⟨some 26, _, _, _, _, _⟩) (v := undef) rfl (by kernel_rfl) (by kernel_rfl) (by kernel_rfl) (fun _ _ _ h => h) (Or.inr ⟨by rfl, rfl⟩) (by assumption) ?_
        try simp only [Act.put, List.setIfInBounds_toArray, List.set_cons_zero, List.set_cons_succ]
        refine wpAnyH_take (i := 16) (oi := ⟨some 27, _, _, _, _, _⟩) (v := undef) rfl (by kernel_rfl) (by kernel_rfl) (by kernel_rfl) (fun _ _ _ h => h) (Or.inr ⟨by rfl, rfl⟩) (by assumption) ?_
        try simp only [Act.put, List.setIfInBounds_toArray, List.set_cons_zero, List.set_cons_succ]
        refine wpAnyH_take (i := 17) (oi := ⟨some 28, _, _, _, _, _⟩) (v := undef) rfl (by kernel_rfl) (by kernel_rfl) (by kernel_rfl) (fun _ _ _ h => h) (Or.inr ⟨by rfl, rfl⟩) (by assumption) ?_
        try simp only [Act.put, List.setIfInBounds_toArray, List.set_cons_zero, List.set_cons_succ]
        refine wpAnyH_take (i := 18) (oi := ⟨some 29, _, _, _, _, _⟩) (v := ?v7) rfl (by kernel_rfl) (by kernel_rfl) (by kernel_rfl) (fun _ _ _ h => h) (Or.inl ⟨by rfl, ?y7⟩) (by assumption) ?r7
        case y7 => (intro wx hSx; (try dsimp only at hSx); go_simp; (try with_reducible rfl))
        try simp only [Act.put, List.setIfInBounds_toArray, List.set_cons_zero, List.set_cons_succ]
        refine wpAnyH_done (by kernel_rfl) ?_ _
        go_wp2_with ((at_builtin; refine wpList_moreI rfl _ _ rfl rfl (HV.out.frm0 (((Frm.refl _ wr).alloc _).drew)) (fun k hk => by have := HF.out.size; simp; omega) (one_intsI3 wr k hk8.out) (show ([(k : Int)] : List Int).length = 1 from rfl) (by have := HLN.out; omega) rfl rfl ?_; intro a' l' c' wq ho' hf' hat'; have HF2 := hid ((bdrew (HF.out.alloc HF.out.size _)).trans (hf'.below (by have := HF.out.size; simp; omega) (fun k hk hn => HV.out.off k hn hk))); clear HF HV hf' hat'; have HF := HF2; have HV := hid ho'; clear ho' HF2))
        go_roundw
        case rel => exact ⟨k + 1, _, _, _, by omega, rfl, by go_num, by rw [HSC.out]; exact HV.out, HF.out⟩
        case measure => simp [intOf]; omega
    · obtain rfl : k = 8 := by omega
      go_wp2
      go_ret
      obtain ⟨a9, c9, e9, hi9, _⟩ := HV.out.ints
      cases e9
      exact ⟨_, _, rfl, hi9, frm0_of HF.out⟩
set_option maxHeartbeats 8000000 in
theorem RUnlike_b {w : World} {A B : Option Addr} {c d : Nat} {x y : List Int} (m : Nat) (hm : y.length = m) (hne : m ≠ 8) :
    Calls Try.prog 31 #[.slice A 8 c, .slice B m d] w fun e w' => ∃ a c', e = .returned (.slice a (unl x y 8).length c') ∧ IsInts .i64 w' a c' (unl x y 8) ∧ Frm (fun _ => False) w w' := by
  have HDIF : ∀ {k : Nat}, Hid (x.length ≠ 8 ∨ y.length ≠ 8 ∨ x.getD k 0 ≠ y.getD k 0) := fun {k} => hid (.inr (.inl (by omega)))
  have q1 : ((m : Int) == 8) = false := beq_eq_false_iff_ne.2 (by omega)
  have q2 : ((m : Int) != 8) = true := bne_iff_ne.2 (by omega)
  clear hm hne
  go_enter Try.func31, Try.ntmps31
  go_wp2
  go_loopw [5, 6] (fun ov i wr => ∃ (k : Nat) (a : Option Addr) (l c' : Nat), k ≤ 8 ∧ ov = .slice a l c' ∧ i = .int .i64 k ∧ OwnBI wr (fun k => k < w.heap.size) (.slice a l c') (unl x y k) ∧ Below w.heap.size w wr) (fun _ i _ => 8 - (intOf i).toNat)
  case atStart => exact ⟨0, none, 0, 0, by omega, rfl, rfl, OwnBI.nil _ _, Below.refl _ _⟩
  case round =>
    obtain ⟨k, a, l, c', hk, rfl, rfl, hv, hf⟩ := hrel
    have HV := hid hv; have HF := hid hf; clear hv hf
    by_cases hlt : k < 8
    · have hk8 := hid (show k ≤ 8 by omega)
      have hk7 : (k : Int) < 8 := by omega
      have HLN := hid (show (unl x y k).length + 1 ≤ 1000000 by have := unl_len x y k; omega)
      · have HSC := hid (show unl x y (k + 1) = unl x y k ++ [(k : Int)] by rw [unl_succ, if_pos HDIF.out])
        go_wp2
        refine wp_region_held_drew (S := fun wx => True) (by kernel_rfl) (by trivial) (fun hHeld => ?_)
        refine wpAnyH_take (i := 0) (oi := ⟨some 11, _, _, _, _, _⟩) (v := ?v1) rfl (by kernel_rfl) (by kernel_rfl) (by kernel_rfl) (fun _ _ _ h => h) (Or.inl ⟨by rfl, ?y1⟩) (by assumption) ?r1
        case y1 => (intro wx hSx; (try dsimp only at hSx); go_simp; (try with_reducible rfl))
        try simp only [Act.put, List.setIfInBounds_toArray, List.set_cons_zero, List.set_cons_succ]
        refine wpAnyH_take (i := 1) (oi := ⟨some 12, _, _, _, _, _⟩) (v := ?v2) rfl (by kernel_rfl) (by kernel_rfl) (by kernel_rfl) (fun _ _ _ h => h) (Or.inl ⟨by rfl, ?y2⟩) (by assumption) ?r2
        case y2 => (intro wx hSx; (try dsimp only at hSx); go_simp; (try with_reducible rfl))
        try simp only [Act.put, List.setIfInBounds_toArray, List.set_cons_zero, List.set_cons_succ]
        refine wpAnyH_take (i := 2) (oi := ⟨some 13, _, _, _, _, _⟩) (v := ?v3) rfl (by kernel_rfl) (by kernel_rfl) (by kernel_rfl) (fun _ _ _ h => h) (Or.inl ⟨by rfl, ?y3⟩) (by assumption) ?r3
        case y3 => (intro wx hSx; (try dsimp only at hSx); go_simp; (try with_reducible rfl))
        try simp only [Act.put, List.setIfInBounds_toArray, List.set_cons_zero, List.set_cons_succ]
        refine wpAnyH_take (i := 3) (oi := ⟨some 14, _, _, _, _, _⟩) (v := ?v4) rfl (by kernel_rfl) (by kernel_rfl) (by kernel_rfl) (fun _ _ _ h => h) (Or.inl ⟨by rfl, ?y4⟩) (by assumption) ?r4
        case y4 => (intro wx hSx; (try dsimp only at hSx); go_simp; (try with_reducible rfl))
        try simp only [Act.put, List.setIfInBounds_toArray, List.set_cons_zero, List.set_cons_succ]
        refine wpAnyH_take (i := 4) (oi := ⟨some 15, _, _, _, _, _⟩) (v := ?v5) rfl (by kernel_rfl) (by kernel_rfl) (by kernel_rfl) (fun _ _ _ h => h) (Or.inl ⟨by rfl, ?y5⟩) (by assumption) ?r5
        case y5 => (intro wx hSx; (try dsimp only at hSx); go_simp; (try with_reducible rfl))
        try simp only [Act.put, List.setIfInBounds_toArray, List.set_cons_zero, List.set_cons_succ]
        refine wpAnyH_take (i := 5) (oi := ⟨some 16, _, _, _, _, _⟩) (v := ?v6) rfl (by kernel_rfl) (by kernel_rfl) (by kernel_rfl) (fun _ _ _ h => h) (Or.inl ⟨by rfl, ?y6⟩) (by assumption) ?r6
        case y6 => (intro wx hSx; (try dsimp only at hSx); go_simp; (try with_reducible rfl))
        try simp only [Act.put, List.setIfInBounds_toArray, List.set_cons_zero, List.set_cons_succ]
        refine wpAnyH_take (i := 6) (oi := ⟨some 17, _, _, _, _, _⟩) (v := ?v7) rfl (by kernel_rfl) (by kernel_rfl) (by kernel_rfl) (fun _ _ _ h => h) (Or.inl ⟨by rfl, ?y7⟩) (by assumption) ?r7
        case y7 => (intro wx hSx; (try dsimp only at hSx); go_simp; (try with_reducible rfl))
        try simp only [Act.put, List.setIfInBounds_toArray, List.set_cons_zero, List.set_cons_succ]
        refine wpAnyH_take (i := 7) (oi := ⟨some 18, _, _, _, _, _⟩) (v := ?v8) rfl (by kernel_rfl) (by kernel_rfl) (by kernel_rfl) (fun _ _ _ h => h) (Or.inl ⟨by rfl, ?y8⟩) (by assumption) ?r8
        case y8 => (intro wx hSx; (try dsimp only at hSx); go_simp; (try with_reducible rfl))
        try simp only [Act.put, List.setIfInBounds_toArray, List.set_cons_zero, List.set_cons_succ]
        refine wpAnyH_take (i := 8) (oi := ⟨some 19, _, _, _, _, _⟩) (v := ?v9) rfl (by kernel_rfl) (by kernel_rfl) (by kernel_rfl) (fun _ _ _ h => h) (Or.inl ⟨by rfl, ?y9⟩) (by assumption) ?r9
        case y9 => (intro wx hSx; (try dsimp only at hSx); go_simp; (try with_reducible rfl))
        try simp only [Act.put, List.setIfInBounds_toArray, List.set_cons_zero, List.set_cons_succ]
        refine wpAnyH_take (i := 9) (oi := ⟨some 20, _, _, _, _, _⟩) (v := undef) rfl (by kernel_rfl) (by kernel_rfl) (by kernel_rfl) (fun _ _ _ h => h) (Or.inr ⟨by rfl, rfl⟩) (by assumption) ?_
        try simp only [Act.put, List.setIfInBounds_toArray, List.set_cons_zero, List.set_cons_succ]
        refine wpAnyH_take (i := 10) (oi := ⟨some 21, _, _, _, _, _⟩) (v := undef) rfl (by kernel_rfl) (by kernel_rfl) (by kernel_rfl) (fun _ _ _ h => h) (Or.inr ⟨by rfl, rfl⟩) (by assumption) ?_
        try simp only [Act.put, List.setIfInBounds_toArray, List.set_cons_zero, List.set_cons_succ]
        refine wpAnyH_take (i := 11) (oi := ⟨some 22, _, _, _, _, _⟩) (v := undef) rfl (by kernel_rfl) (by kernel_rfl) (by kernel_rfl) (fun _ _ _ h => h) (Or.inr ⟨by rfl, rfl⟩) (by assumption) ?_
        try simp only [Act.put, List.setIfInBounds_toArray, List.set_cons_zero, List.set_cons_succ]
        refine wpAnyH_take (i := 12) (oi := ⟨some 23, _, _, _, _, _⟩) (v := undef) rfl (by kernel_rfl) (by kernel_rfl) (by kernel_rfl) (fun _ _ _ h => h) (Or.inr ⟨by rfl, rfl⟩) (by assumption) ?_
        try simp only [Act.put, List.setIfInBounds_toArray, List.set_cons_zero, List.set_cons_succ]
        refine wpAnyH_take (i := 13) (oi := ⟨some 24, _, _, _, _, _⟩) (v := undef) rfl (by kernel_rfl) (by kernel_rfl) (by kernel_rfl) (fun _ _ _ h => h) (Or.inr ⟨by rfl, rfl⟩) (by assumption) ?_
        try simp only [Act.put, List.setIfInBounds_toArray, List.set_cons_zero, List.set_cons_succ]
        refine wpAnyH_take (i := 14) (oi := ⟨some 25, _, _, _, _, _⟩) (v := undef) rfl (by kernel_rfl) (by kernel_rfl) (by kernel_rfl) (fun _ _ _ h => h) (Or.inr ⟨by rfl, rfl⟩) (by assumption) ?_
        try simp only [Act.put, List.setIfInBounds_toArray, List.set_cons_zero, List.set_cons_succ]
        refine wpAnyH_take (i := 15) (oi := ⟨some 26, _, _, _, _, _⟩) (v := undef) rfl (by kernel_rfl) (by kernel_rfl) (by kernel_rfl) (fun _ _ _ h => h) (Or.inr ⟨by rfl, rfl⟩) (by assumption) ?_
        try simp only [Act.put, List.setIfInBounds_toArray, List.set_cons_zero, List.set_cons_succ]
        refine wpAnyH_take (i := 16) (oi := ⟨some 27, _, _, _, _, _⟩) (v := undef) rfl (by kernel_rfl) (by kernel_rfl) (by kernel_rfl) (fun _ _ _ h => h) (Or.inr ⟨by rfl, rfl⟩) (by assumption) ?_
        try simp only [Act.put, List.setIfInBounds_toArray, List.set_cons_zero, List.set_cons_succ]
        refine wpAnyH_take (i := 17) (oi := ⟨some 28, _, _, _, _, _⟩) (v := undef) rfl (by kernel_rfl) (by kernel_rfl) (by kernel_rfl) (fun _ _ _ h => h) (Or.inr ⟨by rfl, rfl⟩) (by assumption) ?_
        try simp only [Act.put, List.setIfInBounds_toArray, List.set_cons_zero, List.set_cons_succ]
        refine wpAnyH_take (i := 18) (oi := ⟨some 29, _, _, _, _, _⟩) (v := ?v10) rfl (by kernel_rfl) (by kernel_rfl) (by kernel_rfl) (fun _ _ _ h => h) (Or.inl ⟨by rfl, ?y10⟩) (by assumption) ?r10
        case y10 => (intro wx hSx; (try dsimp only at hSx); go_simp; (try with_reducible rfl))
        try simp only [Act.put, List.setIfInBounds_toArray, List.set_cons_zero, List.set_cons_succ]
        refine wpAnyH_done (by kernel_rfl) ?_ _
        go_wp2_with ((at_builtin; refine wpList_moreI rfl _ _ rfl rfl (HV.out.frm0 (((Frm.refl _ wr).alloc _).drew)) (fun k hk => by have := HF.out.size; simp; omega) (one_intsI3 wr k hk8.out) (show ([(k : Int)] : List Int).length = 1 from rfl) (by have := HLN.out; omega) rfl rfl ?_; intro a' l' c' wq ho' hf' hat'; have HF2 := hid ((bdrew (HF.out.alloc HF.out.size _)).trans (hf'.below (by have := HF.out.size; simp; omega) (fun k hk hn => HV.out.off k hn hk))); clear HF HV hf' hat'; have HF := HF2; have HV := hid ho'; clear ho' HF2))
        go_roundw
        case rel => exact ⟨k + 1, _, _, _, by omega, rfl, by go_num, by rw [HSC.out]; exact HV.out, HF.out⟩
        case measure => simp [intOf]; omega
    · obtain rfl : k = 8 := by omega
      go_wp2
      go_ret
      obtain ⟨a9, c9, e9, hi9, _⟩ := HV.out.ints
      cases e9
      exact ⟨_, _, rfl, hi9, frm0_of HF.out⟩
set_option maxHeartbeats 8000000 in
theorem RUnlike_c {w : World} {A B : Option Addr} {c d : Nat} {x y : List Int} (hx : IsInts .u64 w A c x) (hy : IsInts .u64 w B d y) (hn : x.length = 8) (hm : y.length = 8) :
    Calls Try.prog 31 #[.slice A 8 c, .slice B 8 d] w fun e w' => ∃ a c', e = .returned (.slice a (unl x y 8).length c') ∧ IsInts .i64 w' a c' (unl x y 8) ∧ Frm (fun _ => False) w w' := by
  have hle := hx.le; have hle2 := hy.le; have hsm := hx.small; have hsm2 := hy.small
  rw [hn] at hle
  rw [hm] at hle2
  have HX := hid hx; have HY := hid hy; have HN := hid hn; have HM := hid hm
  clear hx hy hn hm
  go_enter Try.func31, Try.ntmps31
  go_wp2
  go_loopw [5, 6] (fun ov i wr => ∃ (k : Nat) (a : Option Addr) (l c' : Nat), k ≤ 8 ∧ ov = .slice a l c' ∧ i = .int .i64 k ∧ OwnBI wr (fun k => k < w.heap.size) (.slice a l c') (unl x y k) ∧ Below w.heap.size w wr) (fun _ i _ => 8 - (intOf i).toNat)
  case atStart => exact ⟨0, none, 0, 0, by omega, rfl, rfl, OwnBI.nil _ _, Below.refl _ _⟩
  case round =>
    obtain ⟨k, a, l, c', hk, rfl, rfl, hv, hf⟩ := hrel
    have HV := hid hv; have HF := hid hf; clear hv hf
    by_cases hlt : k < 8
    · have hk8 := hid (show k ≤ 8 by omega)
      have hk7 : (k : Int) < 8 := by omega
      have HLN := hid (show (unl x y k).length + 1 ≤ 1000000 by have := unl_len x y k; omega)
      · obtain ⟨ga, oa, rfl, hga, hca⟩ := HX.out.at_ (by have := HN.out; omega)
        obtain ⟨gb, ob, rfl, hgb, hcb⟩ := HY.out.at_ (by have := HM.out; omega)
        have q0 := (HF.out.cell (p := ⟨ga, oa + k, none⟩) hga).trans (hca k (by have := HN.out; omega))
        have q1 := (HF.out.cell (p := ⟨gb, ob + k, none⟩) hgb).trans (hcb k (by have := HM.out; omega))
        have hsc := unl_succ x y k
        obtain ⟨u, hu⟩ : ∃ u, x.getD k 0 = u := ⟨_, rfl⟩
        obtain ⟨v, hv⟩ : ∃ v, y.getD k 0 = v := ⟨_, rfl⟩
        rw [hu] at q0 hsc
        rw [hv] at q1 hsc
        clear hca hcb hu hv
        by_cases huv : u = v
        · have qe : (u == v) = true := beq_iff_eq.2 huv
          have qn : (u != v) = false := by rw [bne, qe]; rfl
          have HSC := hid (show unl x y (k + 1) = unl x y k by rw [hsc, if_neg (by have := HN.out; have := HM.out; omega), List.append_nil])
          clear hsc huv
          go_wp2
          go_region_held3 (fun wx => wx.cell? ⟨ga, oa + k, none⟩ = some (.int .u64 u) ∧ wx.cell? ⟨gb, ob + k, none⟩ = some (.int .u64 v)) (go_keep) (fail)
          go_wp2
          go_roundw
          case rel => exact ⟨k + 1, _, _, _, by omega, rfl, by go_num, by rw [HSC.out]; exact HV.out.frm0 (frm_drew _), bdrew HF.out⟩
          case measure => simp [intOf]; omega
        · have qe : (u == v) = false := beq_eq_false_iff_ne.2 huv
          have qn : (u != v) = true := bne_iff_ne.2 huv
          have HSC := hid (show unl x y (k + 1) = unl x y k ++ [(k : Int)] by rw [hsc, if_pos (.inr (.inr huv))])
          clear hsc huv
          go_wp2
          go_region_held3 (fun wx => wx.cell? ⟨ga, oa + k, none⟩ = some (.int .u64 u) ∧ wx.cell? ⟨gb, ob + k, none⟩ = some (.int .u64 v)) (go_keep) (fail)
          go_wp2_with ((at_builtin; refine wpList_moreI rfl _ _ rfl rfl (HV.out.frm0 (((Frm.refl _ wr).alloc _).drew)) (fun k hk => by have := HF.out.size; simp; omega) (one_intsI3 wr k hk8.out) (show ([(k : Int)] : List Int).length = 1 from rfl) (by have := HLN.out; omega) rfl rfl ?_; intro a' l' c' wq ho' hf' hat'; have HF2 := hid ((bdrew (HF.out.alloc HF.out.size _)).trans (hf'.below (by have := HF.out.size; simp; omega) (fun k hk hn => HV.out.off k hn hk))); clear HF HV hf' hat'; have HF := HF2; have HV := hid ho'; clear ho' HF2))
          go_roundw
          case rel => exact ⟨k + 1, _, _, _, by omega, rfl, by go_num, by rw [HSC.out]; exact HV.out, HF.out⟩
          case measure => simp [intOf]; omega
    · obtain rfl : k = 8 := by omega
      go_wp2
      go_ret
      obtain ⟨a9, c9, e9, hi9, _⟩ := HV.out.ints
      cases e9
      exact ⟨_, _, rfl, hi9, frm0_of HF.out⟩
theorem RUnlike_calls {w : World} {A B : Option Addr} {c d : Nat} {x y : List Int} (n m : Nat) (hx : IsInts .u64 w A c x) (hy : IsInts .u64 w B d y) (hn : x.length = n) (hm : y.length = m) :
    Calls Try.prog 31 #[.slice A n c, .slice B m d] w fun e w' => ∃ a c', e = .returned (.slice a (unl x y 8).length c') ∧ IsInts .i64 w' a c' (unl x y 8) ∧ Frm (fun _ => False) w w' := by
  by_cases h1 : n = 8
  · by_cases h2 : m = 8
    · subst h1 h2; exact RUnlike_c hx hy hn hm
    · subst h1; exact RUnlike_b m hm h2
  · exact RUnlike_a n m hn h1
end Go.Proofs.Ytknaalaajmhjgaa
