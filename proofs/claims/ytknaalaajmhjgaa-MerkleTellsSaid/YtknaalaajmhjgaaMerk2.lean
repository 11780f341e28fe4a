/- Sums of pages: Group, Root, Sums, Of, Unlike. -/
import Derived.Test.YtknaalaajmhjgaaMerk
import Derived.Test.YtknaalaajmhjgaaOwnI
import Derived.Test.YtknaalaajmhjgaaOwnU
import Derived.Test.YtknaalaajmhjgaaHeld
namespace Go.Proofs.Ytknaalaajmhjgaa
open Go.RowKit Go.ChangeShapes
set_option maxRecDepth 20000
set_option linter.unusedVariables false
set_option linter.unusedSimpArgs false
def groupS (l : List Int) (g : Int) : Int := if l.length = 8 ∧ 0 ≤ g ∧ g < 4 then mixS (l.getD (2 * g.toNat) 0) (l.getD (2 * g.toNat + 1) 0) else 0
def rootS (l : List Int) : Int := if l.length = 8 then mixS (mixS (groupS l 0) (groupS l 1)) (mixS (groupS l 2) (groupS l 3)) else 0
theorem Group_none {w : World} {A : Option Addr} {c n : Nat} (g : Int) (h : n ≠ 8 ∨ g < 0 ∨ 4 ≤ g) :
    Calls Try.prog 10 #[.slice A n c, .int .i64 g] w fun e w' => e = .returned (.int .u64 0) ∧ w = w' := by
  by_cases hn : n = 8
  · subst hn
    have h' : g < 0 ∨ 4 ≤ g := h.resolve_left (fun h => h rfl)
    clear h
    rcases h' with h' | h'
    all_goals
      go_enter Try.func10, Try.ntmps10
      go_wp2
      go_ret
      exact ⟨rfl, by first | rfl | trivial⟩
  · have q : ((n : Int) == 8) = false := beq_eq_false_iff_ne.2 (by omega)
    have q2 : ((n : Int) != 8) = true := bne_iff_ne.2 (by omega)
    clear h
    go_enter Try.func10, Try.ntmps10
    go_wp2
    go_ret
    exact ⟨rfl, by first | rfl | trivial⟩
theorem Group_0 {w : World} {A : Option Addr} {c : Nat} {l : List Int} (h : IsInts .u64 w A c l) (hl : l.length = 8) (G : Int) (hG : groupS l 0 = G) :
    Calls Try.prog 10 #[.slice A 8 c, .int .i64 0] w fun e w' => e = .returned (.int .u64 G) ∧ Frm (fun _ => False) w w' := by
  obtain ⟨g, off, rfl, hg, hc⟩ := h.at_ (by omega)
  have hle := h.le
  have hsm := h.small
  have q0 := hc 0 (by omega)
  have q1 := hc 1 (by omega)
  rw [hl] at hle
  rw [groupS, if_pos ⟨hl, by decide, by decide⟩] at hG
  obtain ⟨a, ha⟩ : ∃ a, l.getD 0 0 = a := ⟨_, rfl⟩
  obtain ⟨b, hb⟩ : ∃ b, l.getD 1 0 = b := ⟨_, rfl⟩
  have HG := hid (show mixS a b = G by rw [← ha, ← hb]; exact hG)
  rw [ha] at q0
  rw [hb] at q1
  clear hc h ha hb hG hl
  rw [Nat.add_zero] at q0
  have e0 : IntKind.i64.wrap (2 * 0) = 0 := by decide
  have e1 : IntKind.i64.wrap 0 = 0 := by decide
  have e2 : IntKind.i64.wrap (0 + 1) = 1 := by decide
  have e3 : IntKind.i64.wrap 1 = 1 := by decide
  go_enter Try.func10, Try.ntmps10
  go_wp2
  go_region_held3 (fun wx => wx.cell? ⟨g, off, none⟩ = some (.int .u64 a) ∧ wx.cell? ⟨g, off + 1, none⟩ = some (.int .u64 b)) (first | go_keep | exact ⟨(HF.out.cell (p := ⟨g, _, none⟩) hg (fun h => h)).trans q0, (HF.out.cell (p := ⟨g, _, none⟩) hg (fun h => h)).trans q1⟩) ((go_at_call 35; (with_reducible refine (BMix_calls a b _ G HG.out).mono ?_); rintro e w' ⟨rfl, f'⟩; have HF := hid f'; clear f'))
  go_wp2
  go_ret
  exact ⟨rfl, ⟨HF.out.os, HF.out.tape, HF.out.output, HF.out.size, HF.out.block⟩⟩
theorem Group_1 {w : World} {A : Option Addr} {c : Nat} {l : List Int} (h : IsInts .u64 w A c l) (hl : l.length = 8) (G : Int) (hG : groupS l 1 = G) :
    Calls Try.prog 10 #[.slice A 8 c, .int .i64 1] w fun e w' => e = .returned (.int .u64 G) ∧ Frm (fun _ => False) w w' := by
  obtain ⟨g, off, rfl, hg, hc⟩ := h.at_ (by omega)
  have hle := h.le
  have hsm := h.small
  have q0 := hc 2 (by omega)
  have q1 := hc 3 (by omega)
  rw [hl] at hle
  rw [groupS, if_pos ⟨hl, by decide, by decide⟩] at hG
  obtain ⟨a, ha⟩ : ∃ a, l.getD 2 0 = a := ⟨_, rfl⟩
  obtain ⟨b, hb⟩ : ∃ b, l.getD 3 0 = b := ⟨_, rfl⟩
  have HG := hid (show mixS a b = G by rw [← ha, ← hb]; exact hG)
  rw [ha] at q0
  rw [hb] at q1
  clear hc h ha hb hG hl
  have e0 : IntKind.i64.wrap (2 * 1) = 2 := by decide
  have e1 : IntKind.i64.wrap 2 = 2 := by decide
  have e2 : IntKind.i64.wrap (2 + 1) = 3 := by decide
  have e3 : IntKind.i64.wrap 3 = 3 := by decide
  go_enter Try.func10, Try.ntmps10
  go_wp2
  go_region_held3 (fun wx => wx.cell? ⟨g, off + 2, none⟩ = some (.int .u64 a) ∧ wx.cell? ⟨g, off + 3, none⟩ = some (.int .u64 b)) (first | go_keep | exact ⟨(HF.out.cell (p := ⟨g, _, none⟩) hg (fun h => h)).trans q0, (HF.out.cell (p := ⟨g, _, none⟩) hg (fun h => h)).trans q1⟩) ((go_at_call 35; (with_reducible refine (BMix_calls a b _ G HG.out).mono ?_); rintro e w' ⟨rfl, f'⟩; have HF := hid f'; clear f'))
  go_wp2
  go_ret
  exact ⟨rfl, ⟨HF.out.os, HF.out.tape, HF.out.output, HF.out.size, HF.out.block⟩⟩
theorem Group_2 {w : World} {A : Option Addr} {c : Nat} {l : List Int} (h : IsInts .u64 w A c l) (hl : l.length = 8) (G : Int) (hG : groupS l 2 = G) :
    Calls Try.prog 10 #[.slice A 8 c, .int .i64 2] w fun e w' => e = .returned (.int .u64 G) ∧ Frm (fun _ => False) w w' := by
  obtain ⟨g, off, rfl, hg, hc⟩ := h.at_ (by omega)
  have hle := h.le
  have hsm := h.small
  have q0 := hc 4 (by omega)
  have q1 := hc 5 (by omega)
  rw [hl] at hle
  rw [groupS, if_pos ⟨hl, by decide, by decide⟩] at hG
  obtain ⟨a, ha⟩ : ∃ a, l.getD 4 0 = a := ⟨_, rfl⟩
  obtain ⟨b, hb⟩ : ∃ b, l.getD 5 0 = b := ⟨_, rfl⟩
  have HG := hid (show mixS a b = G by rw [← ha, ← hb]; exact hG)
  rw [ha] at q0
  rw [hb] at q1
  clear hc h ha hb hG hl
  have e0 : IntKind.i64.wrap (2 * 2) = 4 := by decide
  have e1 : IntKind.i64.wrap 4 = 4 := by decide
  have e2 : IntKind.i64.wrap (4 + 1) = 5 := by decide
  have e3 : IntKind.i64.wrap 5 = 5 := by decide
  go_enter Try.func10, Try.ntmps10
  go_wp2
  go_region_held3 (fun wx => wx.cell? ⟨g, off + 4, none⟩ = some (.int .u64 a) ∧ wx.cell? ⟨g, off + 5, none⟩ = some (.int .u64 b)) (first | go_keep | exact ⟨(HF.out.cell (p := ⟨g, _, none⟩) hg (fun h => h)).trans q0, (HF.out.cell (p := ⟨g, _, none⟩) hg (fun h => h)).trans q1⟩) ((go_at_call 35; (with_reducible refine (BMix_calls a b _ G HG.out).mono ?_); rintro e w' ⟨rfl, f'⟩; have HF := hid f'; clear f'))
  go_wp2
  go_ret
  exact ⟨rfl, ⟨HF.out.os, HF.out.tape, HF.out.output, HF.out.size, HF.out.block⟩⟩
theorem Group_3 {w : World} {A : Option Addr} {c : Nat} {l : List Int} (h : IsInts .u64 w A c l) (hl : l.length = 8) (G : Int) (hG : groupS l 3 = G) :
    Calls Try.prog 10 #[.slice A 8 c, .int .i64 3] w fun e w' => e = .returned (.int .u64 G) ∧ Frm (fun _ => False) w w' := by
  obtain ⟨g, off, rfl, hg, hc⟩ := h.at_ (by omega)
  have hle := h.le
  have hsm := h.small
  have q0 := hc 6 (by omega)
  have q1 := hc 7 (by omega)
  rw [hl] at hle
  rw [groupS, if_pos ⟨hl, by decide, by decide⟩] at hG
  obtain ⟨a, ha⟩ : ∃ a, l.getD 6 0 = a := ⟨_, rfl⟩
  obtain ⟨b, hb⟩ : ∃ b, l.getD 7 0 = b := ⟨_, rfl⟩
  have HG := hid (show mixS a b = G by rw [← ha, ← hb]; exact hG)
  rw [ha] at q0
  rw [hb] at q1
  clear hc h ha hb hG hl
  have e0 : IntKind.i64.wrap (2 * 3) = 6 := by decide
  have e1 : IntKind.i64.wrap 6 = 6 := by decide
  have e2 : IntKind.i64.wrap (6 + 1) = 7 := by decide
  have e3 : IntKind.i64.wrap 7 = 7 := by decide
  go_enter Try.func10, Try.ntmps10
  go_wp2
  go_region_held3 (fun wx => wx.cell? ⟨g, off + 6, none⟩ = some (.int .u64 a) ∧ wx.cell? ⟨g, off + 7, none⟩ = some (.int .u64 b)) (first | go_keep | exact ⟨(HF.out.cell (p := ⟨g, _, none⟩) hg (fun h => h)).trans q0, (HF.out.cell (p := ⟨g, _, none⟩) hg (fun h => h)).trans q1⟩) ((go_at_call 35; (with_reducible refine (BMix_calls a b _ G HG.out).mono ?_); rintro e w' ⟨rfl, f'⟩; have HF := hid f'; clear f'))
  go_wp2
  go_ret
  exact ⟨rfl, ⟨HF.out.os, HF.out.tape, HF.out.output, HF.out.size, HF.out.block⟩⟩
theorem Group_calls {w : World} {A : Option Addr} {c : Nat} {l : List Int} (n : Nat) (h : IsInts .u64 w A c l) (hn : l.length = n) (g : Int) (G : Int) (hG : groupS l g = G) :
    Calls Try.prog 10 #[.slice A n c, .int .i64 g] w fun e w' => e = .returned (.int .u64 G) ∧ Frm (fun _ => False) w w' := by
  by_cases hc : l.length = 8 ∧ 0 ≤ g ∧ g < 4
  · obtain ⟨h8, g0, g4⟩ := hc
    obtain rfl : n = 8 := by omega
    have hg : g = 0 ∨ g = 1 ∨ g = 2 ∨ g = 3 := by omega
    rcases hg with rfl | rfl | rfl | rfl
    · exact Group_0 h h8 G hG
    · exact Group_1 h h8 G hG
    · exact Group_2 h h8 G hG
    · exact Group_3 h h8 G hG
  · rw [groupS, if_neg hc] at hG
    subst hG
    refine (Group_none g (by omega)).mono ?_
    rintro e w' ⟨rfl, rfl⟩
    exact ⟨rfl, Frm.refl _ _⟩
theorem Root_none {w : World} {A : Option Addr} {c n : Nat} (h : n ≠ 8) :
    Calls Try.prog 11 #[.slice A n c] w fun e w' => e = .returned (.int .u64 0) ∧ w = w' := by
  have q : ((n : Int) == 8) = false := beq_eq_false_iff_ne.2 (by omega)
  have q2 : ((n : Int) != 8) = true := bne_iff_ne.2 (by omega)
  go_enter Try.func11, Try.ntmps11
  go_wp2
  go_ret
  exact ⟨rfl, by first | rfl | trivial⟩
def four (a b c d : Int) (k : Nat) : List Int := [a, b, c, d].take k ++ List.replicate (4 - k) 0
set_option maxHeartbeats 4000000 in
theorem Root_8 {w : World} {A : Option Addr} {c : Nat} {l : List Int} (h : IsInts .u64 w A c l) (hl : l.length = 8) (S : Int) (hS : rootS l = S) :
    Calls Try.prog 11 #[.slice A 8 c] w fun e w' => e = .returned (.int .u64 S) ∧ Frm (fun _ => False) w w' := by
  rw [rootS, if_pos hl] at hS
  obtain ⟨g0, h0⟩ : ∃ a, groupS l 0 = a := ⟨_, rfl⟩
  obtain ⟨g1, h1⟩ : ∃ a, groupS l 1 = a := ⟨_, rfl⟩
  obtain ⟨g2, h2⟩ : ∃ a, groupS l 2 = a := ⟨_, rfl⟩
  obtain ⟨g3, h3⟩ : ∃ a, groupS l 3 = a := ⟨_, rfl⟩
  rw [h0, h1, h2, h3] at hS
  obtain ⟨m0, hm0⟩ : ∃ a, mixS g0 g1 = a := ⟨_, rfl⟩
  obtain ⟨m1, hm1⟩ : ∃ a, mixS g2 g3 = a := ⟨_, rfl⟩
  rw [hm0, hm1] at hS
  have H := hid h; have HL := hid hl; have HS := hid hS; have H0 := hid h0; have H1 := hid h1; have H2 := hid h2; have H3 := hid h3; have HM0 := hid hm0; have HM1 := hid hm1
  clear h hl hS h0 h1 h2 h3 hm0 hm1
  go_enter Try.func11, Try.ntmps11
  go_wp2
  generalize hwz : w.alloc (Obj.cells _ 26) = wz
  have st0 : Blk wz w.heap.size (bytU (four g0 g1 g2 g3 0)) 26 := hwz ▸ Blk.new w (bytU (four g0 g1 g2 g3 0)) 26
  have f0 : Below w.heap.size w wz := hwz ▸ (Below.refl _ _).alloc (Nat.le_refl _) _
  clear hwz
  generalize hg : w.heap.size = g at *
  have HG := hid hg; clear hg
  go_loopw [8] (fun i wr => ∃ k : Nat, k ≤ 4 ∧ i = .int .i64 k ∧ Blk wr g (bytU (four g0 g1 g2 g3 k)) 26 ∧ Below g w wr) (fun i _ => 4 - (intOf i).toNat)
  case atStart => exact ⟨0, by omega, rfl, st0, f0⟩
  case round =>
    clear st0 f0
    obtain ⟨k, hk, rfl, hbk, hf⟩ := hrel
    have c4 : k = 0 ∨ k = 1 ∨ k = 2 ∨ k = 3 ∨ k = 4 := by omega
    have HB := hid hbk; have HF := hid hf; clear hbk hf
    rcases c4 with rfl | rfl | rfl | rfl | rfl
    · go_wp2_with (first
        | (go_at_call 10; (with_reducible refine (Group_0 (H.out.below HF.out (HG.out ▸ Nat.le_refl _)) HL.out g0 H0.out).mono ?_); rintro e w' ⟨rfl, f'⟩; have n0_ := hid (HB.out.frm f' (fun h => h)); have n1_ := hid (HF.out.trans (f'.below (HG.out ▸ (HG.out ▸ HF.out : Below w.heap.size w _).size) (fun _ _ h => h))); clear HB HF; have HB := n0_; clear n0_; have HF := n1_; clear n1_; clear f'; have q0 := HB.out.cell 0; have z0 := HB.out.free 0; (simp only [bytU, four, List.take, List.replicate, List.map_cons, List.map_nil, List.cons_append, List.nil_append, List.getElem?_cons_succ, List.getElem?_cons_zero] at q0)))
      go_roundw
      case rel => exact ⟨1, by omega, by go_num, HB.out.setCell 0 _, HF.out.setCell (p := ⟨g, 0, none⟩) (Nat.le_refl g) _⟩
      case measure => simp [intOf]
    · go_wp2_with (first
        | (go_at_call 10; (with_reducible refine (Group_1 (H.out.below HF.out (HG.out ▸ Nat.le_refl _)) HL.out g1 H1.out).mono ?_); rintro e w' ⟨rfl, f'⟩; have n0_ := hid (HB.out.frm f' (fun h => h)); have n1_ := hid (HF.out.trans (f'.below (HG.out ▸ (HG.out ▸ HF.out : Below w.heap.size w _).size) (fun _ _ h => h))); clear HB HF; have HB := n0_; clear n0_; have HF := n1_; clear n1_; clear f'; have q0 := HB.out.cell 1; have z0 := HB.out.free 1; (simp only [bytU, four, List.take, List.replicate, List.map_cons, List.map_nil, List.cons_append, List.nil_append, List.getElem?_cons_succ, List.getElem?_cons_zero] at q0)))
      go_roundw
      case rel => exact ⟨2, by omega, by go_num, HB.out.setCell 1 _, HF.out.setCell (p := ⟨g, 1, none⟩) (Nat.le_refl g) _⟩
      case measure => simp [intOf]
    · go_wp2_with (first
        | (go_at_call 10; (with_reducible refine (Group_2 (H.out.below HF.out (HG.out ▸ Nat.le_refl _)) HL.out g2 H2.out).mono ?_); rintro e w' ⟨rfl, f'⟩; have n0_ := hid (HB.out.frm f' (fun h => h)); have n1_ := hid (HF.out.trans (f'.below (HG.out ▸ (HG.out ▸ HF.out : Below w.heap.size w _).size) (fun _ _ h => h))); clear HB HF; have HB := n0_; clear n0_; have HF := n1_; clear n1_; clear f'; have q0 := HB.out.cell 2; have z0 := HB.out.free 2; (simp only [bytU, four, List.take, List.replicate, List.map_cons, List.map_nil, List.cons_append, List.nil_append, List.getElem?_cons_succ, List.getElem?_cons_zero] at q0)))
      go_roundw
      case rel => exact ⟨3, by omega, by go_num, HB.out.setCell 2 _, HF.out.setCell (p := ⟨g, 2, none⟩) (Nat.le_refl g) _⟩
      case measure => simp [intOf]
    · go_wp2_with (first
        | (go_at_call 10; (with_reducible refine (Group_3 (H.out.below HF.out (HG.out ▸ Nat.le_refl _)) HL.out g3 H3.out).mono ?_); rintro e w' ⟨rfl, f'⟩; have n0_ := hid (HB.out.frm f' (fun h => h)); have n1_ := hid (HF.out.trans (f'.below (HG.out ▸ (HG.out ▸ HF.out : Below w.heap.size w _).size) (fun _ _ h => h))); clear HB HF; have HB := n0_; clear n0_; have HF := n1_; clear n1_; clear f'; have q0 := HB.out.cell 3; have z0 := HB.out.free 3; (simp only [bytU, four, List.take, List.replicate, List.map_cons, List.map_nil, List.cons_append, List.nil_append, List.getElem?_cons_succ, List.getElem?_cons_zero] at q0)))
      go_roundw
      case rel => exact ⟨4, by omega, by go_num, HB.out.setCell 3 _, HF.out.setCell (p := ⟨g, 3, none⟩) (Nat.le_refl g) _⟩
      case measure => simp [intOf]
    · have HFF := hid (show Frm (fun _ => False) w wr.drew from (Frm.of_below HF.out (fun k hk hk' => absurd (Nat.lt_of_lt_of_le hk (HG.out ▸ hk')) (Nat.lt_irrefl _))).drew)
      have HB2 := hid (show Blk wr.drew g (bytU (four g0 g1 g2 g3 4)) 26 from HB.out)
      have q0 := HB.out.cell 0; have q1 := HB.out.cell 1; have q2 := HB.out.cell 2; have q3 := HB.out.cell 3
      simp only [bytU, four, List.take, List.replicate, List.map_cons, List.map_nil, List.cons_append, List.append_nil, List.getElem?_cons_succ, List.getElem?_cons_zero] at q0 q1 q2 q3
      clear HB
      have HB := HB2; clear HB2
      go_wp2_with (fail)
      go_region_held3 (fun wx => wx.cell? ⟨g, 0, none⟩ = some (.int .u64 g0) ∧ wx.cell? ⟨g, 1, none⟩ = some (.int .u64 g1) ∧ wx.cell? ⟨g, 2, none⟩ = some (.int .u64 g2) ∧ wx.cell? ⟨g, 3, none⟩ = some (.int .u64 g3)) (first | go_keep | exact ⟨r0, r1, r2, r3⟩) (first
        | (go_at_call 35; (with_reducible refine (BMix_calls g0 g1 _ m0 HM0.out).mono ?_); rintro e w' ⟨rfl, f'⟩; have n0_ := hid (HB.out.frm f' (fun h => h)); have n1_ := hid (HFF.out.trans f'); clear HB HFF; have HB := n0_; clear n0_; have HFF := n1_; clear n1_; clear f'; have r0 := HB.out.cell 0; have r1 := HB.out.cell 1; have r2 := HB.out.cell 2; have r3 := HB.out.cell 3; (simp only [bytU, four, List.take, List.replicate, List.map_cons, List.map_nil, List.cons_append, List.append_nil, List.getElem?_cons_succ, List.getElem?_cons_zero] at r0 r1 r2 r3))
        | (go_at_call 35; (with_reducible refine (BMix_calls g2 g3 _ m1 HM1.out).mono ?_); rintro e w' ⟨rfl, f'⟩; have n0_ := hid (HB.out.frm f' (fun h => h)); have n1_ := hid (HFF.out.trans f'); clear HB HFF; have HB := n0_; clear n0_; have HFF := n1_; clear n1_; clear f'; have r0 := HB.out.cell 0; have r1 := HB.out.cell 1; have r2 := HB.out.cell 2; have r3 := HB.out.cell 3; (simp only [bytU, four, List.take, List.replicate, List.map_cons, List.map_nil, List.cons_append, List.append_nil, List.getElem?_cons_succ, List.getElem?_cons_zero] at r0 r1 r2 r3))
        | (go_at_call 35; (with_reducible refine (BMix_calls m0 m1 _ S HS.out).mono ?_); rintro e w' ⟨rfl, f'⟩; have n0_ := hid (HB.out.frm f' (fun h => h)); have n1_ := hid (HFF.out.trans f'); clear HB HFF; have HB := n0_; clear n0_; have HFF := n1_; clear n1_; clear f'; have r0 := HB.out.cell 0; have r1 := HB.out.cell 1; have r2 := HB.out.cell 2; have r3 := HB.out.cell 3; (simp only [bytU, four, List.take, List.replicate, List.map_cons, List.map_nil, List.cons_append, List.append_nil, List.getElem?_cons_succ, List.getElem?_cons_zero] at r0 r1 r2 r3)))
      go_wp2
      go_ret
      exact ⟨rfl, HFF.out⟩
theorem Root_calls {w : World} {A : Option Addr} {c : Nat} {l : List Int} (n : Nat) (h : IsInts .u64 w A c l) (hn : l.length = n) (S : Int) (hS : rootS l = S) :
    Calls Try.prog 11 #[.slice A n c] w fun e w' => e = .returned (.int .u64 S) ∧ Frm (fun _ => False) w w' := by
  by_cases h8 : n = 8
  · subst h8; exact Root_8 h hn S hS
  · rw [rootS, if_neg (by omega)] at hS
    subst hS
    refine (Root_none h8).mono ?_
    rintro e w' ⟨rfl, rfl⟩
    exact ⟨rfl, Frm.refl _ _⟩
theorem wf64 {n : Int} (h : 0 ≤ n ∧ n < 18446744073709551616) : (Lit.int .u64 n).wf = true := by
  have h0 := h.1; have h1 := h.2
  simp [Lit.wf, IntKind.min, IntKind.max, IntKind.bits, IntKind.signed]; omega
theorem bts_beP (n : Int) (m : Nat) : Bts (be n m) := by
  intro x hx
  simp only [be, List.mem_map] at hx
  obtain ⟨j, _, rfl⟩ := hx
  omega
theorem bts_appP {x y : List Int} (hx : Bts x) (hy : Bts y) : Bts (x ++ y) := fun n hn => (List.mem_append.1 hn).elim (hx n) (hy n)
theorem bts_page (vs cs : List Int) (p : Nat) : Bts (pageB vs cs p) := by
  unfold pageB
  split
  · intro n hn
    obtain ⟨j, _, hj⟩ := List.mem_flatMap.1 hn
    revert hj
    unfold cbytes
    split
    · intro h; cases h
    · exact bts_appP (bts_appP (bts_beP _ _) (bts_beP _ _)) (bts_beP _ _) n
  · intro n hn
    obtain ⟨j, _, hj⟩ := List.mem_flatMap.1 hn
    revert hj
    unfold kbytes
    split
    · intro h; cases h
    · exact bts_appP (bts_beP _ _) (bts_beP _ _) n
theorem leafS_bd (p : Int) {b : List Int} (hb : Bts b) : 0 ≤ leafS p b ∧ leafS p b < 18446744073709551616 := range_sFrom _ (fun n hn => by
  rcases List.mem_cons.1 hn with rfl | h
  · omega
  · exact hb n h) _ (by decide)
theorem wf_leaf (vs cs : List Int) (p : Int) (q : Nat) : (Lit.int .u64 (leafS p (pageB vs cs q))).wf = true := wf64 (leafS_bd p (bts_page vs cs q))
theorem Page_at {w : World} {b : Nat} {vs cs : List Int} (h : IsMap w b vs cs) (P : Int) (p : Nat) (hP : P = p) (hp : p ≤ 7) :
    Calls Try.prog 20 #[.pointer (some ⟨b, 0, none⟩), .int .i64 P] w fun e w' => ∃ g, e = .returned (.slice (some ⟨g, 0, none⟩) (pageB vs cs p).length (pageB vs cs p).length) ∧ w.heap.size ≤ g ∧ IsInts .u8 w' (some ⟨g, 0, none⟩) (pageB vs cs p).length (pageB vs cs p) ∧ Frm (fun _ => False) w w' := by
  subst hP
  by_cases h7 : p = 7
  · subst h7; exact Page_clis h
  · exact Page_vals h p (by omega)
def sumsL (vs cs : List Int) : List Int := [leafS 0 (pageB vs cs 0), leafS 1 (pageB vs cs 1), leafS 2 (pageB vs cs 2), leafS 3 (pageB vs cs 3), leafS 4 (pageB vs cs 4), leafS 5 (pageB vs cs 5), leafS 6 (pageB vs cs 6), leafS 7 (pageB vs cs 7)]
def eight (l : List Int) (k : Nat) : List Int := l.take k ++ List.replicate (8 - k) 0
set_option maxHeartbeats 8000000 in
theorem Sums_calls {w : World} {b : Nat} {vs cs : List Int} (h : IsMap w b vs cs) (L : List Int) (hL : sumsL vs cs = L) :
    Calls Try.prog 17 #[.pointer (some ⟨b, 0, none⟩)] w fun e w' => ∃ g, e = .returned (.slice (some ⟨g, 0, none⟩) 8 8) ∧ w.heap.size ≤ g ∧ IsInts .u64 w' (some ⟨g, 0, none⟩) 8 L ∧ Frm (fun _ => False) w w' := by
  have hmw := h.blk.lt
  have HM := hid h; clear h
  obtain ⟨l0, l1, l2, l3, l4, l5, l6, l7, HLS⟩ : ∃ l0 l1 l2 l3 l4 l5 l6 l7 : Int, L = [l0, l1, l2, l3, l4, l5, l6, l7] ∧ leafS 0 (pageB vs cs 0) = l0 ∧ leafS 1 (pageB vs cs 1) = l1 ∧ leafS 2 (pageB vs cs 2) = l2 ∧ leafS 3 (pageB vs cs 3) = l3 ∧ leafS 4 (pageB vs cs 4) = l4 ∧ leafS 5 (pageB vs cs 5) = l5 ∧ leafS 6 (pageB vs cs 6) = l6 ∧ leafS 7 (pageB vs cs 7) = l7 := ⟨_, _, _, _, _, _, _, _, hL.symm, rfl, rfl, rfl, rfl, rfl, rfl, rfl, rfl⟩
  obtain ⟨hLL, h0, h1, h2, h3, h4, h5, h6, h7⟩ := HLS
  have HLL := hid hLL; clear hLL hL
  have H0 := hid h0; clear h0
  have H1 := hid h1; clear h1
  have H2 := hid h2; clear h2
  have H3 := hid h3; clear h3
  have H4 := hid h4; clear h4
  have H5 := hid h5; clear h5
  have H6 := hid h6; clear h6
  have H7 := hid h7; clear h7
  go_enter Try.func17, Try.ntmps17
  go_wp2
  generalize hwz : w.alloc (Obj.cells _ 23) = wz
  have st0 : Blk wz w.heap.size (bytU (eight [l0, l1, l2, l3, l4, l5, l6, l7] 0)) 23 := hwz ▸ Blk.new w (bytU (eight [l0, l1, l2, l3, l4, l5, l6, l7] 0)) 23
  have f0 : Frm (fun _ => False) w wz := hwz ▸ (Frm.refl _ _).alloc _
  clear hwz
  generalize hg : w.heap.size = g at *
  have HG := hid hg; clear hg
  go_loopw [5] (fun i wr => ∃ k : Nat, k ≤ 8 ∧ i = .int .i64 k ∧ Blk wr g (bytU (eight [l0, l1, l2, l3, l4, l5, l6, l7] k)) 23 ∧ Frm (fun _ => False) w wr) (fun i _ => 8 - (intOf i).toNat)
  case atStart => exact ⟨0, by omega, rfl, st0, f0⟩
  case round =>
    clear st0 f0
    obtain ⟨k, hk, rfl, hbk, hf⟩ := hrel
    have c8 : k = 0 ∨ k = 1 ∨ k = 2 ∨ k = 3 ∨ k = 4 ∨ k = 5 ∨ k = 6 ∨ k = 7 ∨ k = 8 := by omega
    have HB := hid hbk; have HF := hid hf; clear hbk hf
    rcases c8 with rfl | rfl | rfl | rfl | rfl | rfl | rfl | rfl | rfl
    · go_wp2_with (first
        | (go_at_call 20; (with_reducible refine (Page_at (HM.out.frm HF.out (fun h => h)) 0 0 rfl (by decide)).mono ?_); rintro e w' ⟨gp, rfl, hgp, hI, f'⟩; have HI := hid hI; have n0_ := hid (HB.out.frm f' (fun h => h)); have n1_ := hid (HF.out.trans f'); clear HB HF; have HB := n0_; clear n0_; have HF := n1_; clear n1_; clear f' hI hgp)
        | (go_at_call 13; (with_reducible refine (Leaf_calls 0 _ HI.out rfl (by have := page_len vs cs 0; omega) l0 H0.out).mono ?_); rintro e w' ⟨rfl, f'⟩; have n0_ := hid (HB.out.frm f' (fun h => h)); have n1_ := hid (HF.out.trans f'); clear HB HF; have HB := n0_; clear n0_; have HF := n1_; clear n1_; clear f' HI; have q0 := HB.out.cell 0; have z0 := HB.out.free 0; (simp only [bytU, eight, List.take, List.replicate, List.map_cons, List.map_nil, List.cons_append, List.nil_append, List.getElem?_cons_succ, List.getElem?_cons_zero] at q0)))
      go_roundw
      case rel => exact ⟨1, by omega, by go_num, HB.out.setCell 0 _, HF.out.setCell _ _ (.inl (HG.out ▸ Nat.le_refl _))⟩
      case measure => simp [intOf]
    · go_wp2_with (first
        | (go_at_call 20; (with_reducible refine (Page_at (HM.out.frm HF.out (fun h => h)) 1 1 rfl (by decide)).mono ?_); rintro e w' ⟨gp, rfl, hgp, hI, f'⟩; have HI := hid hI; have n0_ := hid (HB.out.frm f' (fun h => h)); have n1_ := hid (HF.out.trans f'); clear HB HF; have HB := n0_; clear n0_; have HF := n1_; clear n1_; clear f' hI hgp)
        | (go_at_call 13; (with_reducible refine (Leaf_calls 1 _ HI.out rfl (by have := page_len vs cs 1; omega) l1 H1.out).mono ?_); rintro e w' ⟨rfl, f'⟩; have n0_ := hid (HB.out.frm f' (fun h => h)); have n1_ := hid (HF.out.trans f'); clear HB HF; have HB := n0_; clear n0_; have HF := n1_; clear n1_; clear f' HI; have q0 := HB.out.cell 1; have z0 := HB.out.free 1; (simp only [bytU, eight, List.take, List.replicate, List.map_cons, List.map_nil, List.cons_append, List.nil_append, List.getElem?_cons_succ, List.getElem?_cons_zero] at q0)))
      go_roundw
      case rel => exact ⟨2, by omega, by go_num, HB.out.setCell 1 _, HF.out.setCell _ _ (.inl (HG.out ▸ Nat.le_refl _))⟩
      case measure => simp [intOf]
    · go_wp2_with (first
        | (go_at_call 20; (with_reducible refine (Page_at (HM.out.frm HF.out (fun h => h)) 2 2 rfl (by decide)).mono ?_); rintro e w' ⟨gp, rfl, hgp, hI, f'⟩; have HI := hid hI; have n0_ := hid (HB.out.frm f' (fun h => h)); have n1_ := hid (HF.out.trans f'); clear HB HF; have HB := n0_; clear n0_; have HF := n1_; clear n1_; clear f' hI hgp)
        | (go_at_call 13; (with_reducible refine (Leaf_calls 2 _ HI.out rfl (by have := page_len vs cs 2; omega) l2 H2.out).mono ?_); rintro e w' ⟨rfl, f'⟩; have n0_ := hid (HB.out.frm f' (fun h => h)); have n1_ := hid (HF.out.trans f'); clear HB HF; have HB := n0_; clear n0_; have HF := n1_; clear n1_; clear f' HI; have q0 := HB.out.cell 2; have z0 := HB.out.free 2; (simp only [bytU, eight, List.take, List.replicate, List.map_cons, List.map_nil, List.cons_append, List.nil_append, List.getElem?_cons_succ, List.getElem?_cons_zero] at q0)))
      go_roundw
      case rel => exact ⟨3, by omega, by go_num, HB.out.setCell 2 _, HF.out.setCell _ _ (.inl (HG.out ▸ Nat.le_refl _))⟩
      case measure => simp [intOf]
    · go_wp2_with (first
        | (go_at_call 20; (with_reducible refine (Page_at (HM.out.frm HF.out (fun h => h)) 3 3 rfl (by decide)).mono ?_); rintro e w' ⟨gp, rfl, hgp, hI, f'⟩; have HI := hid hI; have n0_ := hid (HB.out.frm f' (fun h => h)); have n1_ := hid (HF.out.trans f'); clear HB HF; have HB := n0_; clear n0_; have HF := n1_; clear n1_; clear f' hI hgp)
        | (go_at_call 13; (with_reducible refine (Leaf_calls 3 _ HI.out rfl (by have := page_len vs cs 3; omega) l3 H3.out).mono ?_); rintro e w' ⟨rfl, f'⟩; have n0_ := hid (HB.out.frm f' (fun h => h)); have n1_ := hid (HF.out.trans f'); clear HB HF; have HB := n0_; clear n0_; have HF := n1_; clear n1_; clear f' HI; have q0 := HB.out.cell 3; have z0 := HB.out.free 3; (simp only [bytU, eight, List.take, List.replicate, List.map_cons, List.map_nil, List.cons_append, List.nil_append, List.getElem?_cons_succ, List.getElem?_cons_zero] at q0)))
      go_roundw
      case rel => exact ⟨4, by omega, by go_num, HB.out.setCell 3 _, HF.out.setCell _ _ (.inl (HG.out ▸ Nat.le_refl _))⟩
      case measure => simp [intOf]
    · go_wp2_with (first
        | (go_at_call 20; (with_reducible refine (Page_at (HM.out.frm HF.out (fun h => h)) 4 4 rfl (by decide)).mono ?_); rintro e w' ⟨gp, rfl, hgp, hI, f'⟩; have HI := hid hI; have n0_ := hid (HB.out.frm f' (fun h => h)); have n1_ := hid (HF.out.trans f'); clear HB HF; have HB := n0_; clear n0_; have HF := n1_; clear n1_; clear f' hI hgp)
        | (go_at_call 13; (with_reducible refine (Leaf_calls 4 _ HI.out rfl (by have := page_len vs cs 4; omega) l4 H4.out).mono ?_); rintro e w' ⟨rfl, f'⟩; have n0_ := hid (HB.out.frm f' (fun h => h)); have n1_ := hid (HF.out.trans f'); clear HB HF; have HB := n0_; clear n0_; have HF := n1_; clear n1_; clear f' HI; have q0 := HB.out.cell 4; have z0 := HB.out.free 4; (simp only [bytU, eight, List.take, List.replicate, List.map_cons, List.map_nil, List.cons_append, List.nil_append, List.getElem?_cons_succ, List.getElem?_cons_zero] at q0)))
      go_roundw
      case rel => exact ⟨5, by omega, by go_num, HB.out.setCell 4 _, HF.out.setCell _ _ (.inl (HG.out ▸ Nat.le_refl _))⟩
      case measure => simp [intOf]
    · go_wp2_with (first
        | (go_at_call 20; (with_reducible refine (Page_at (HM.out.frm HF.out (fun h => h)) 5 5 rfl (by decide)).mono ?_); rintro e w' ⟨gp, rfl, hgp, hI, f'⟩; have HI := hid hI; have n0_ := hid (HB.out.frm f' (fun h => h)); have n1_ := hid (HF.out.trans f'); clear HB HF; have HB := n0_; clear n0_; have HF := n1_; clear n1_; clear f' hI hgp)
        | (go_at_call 13; (with_reducible refine (Leaf_calls 5 _ HI.out rfl (by have := page_len vs cs 5; omega) l5 H5.out).mono ?_); rintro e w' ⟨rfl, f'⟩; have n0_ := hid (HB.out.frm f' (fun h => h)); have n1_ := hid (HF.out.trans f'); clear HB HF; have HB := n0_; clear n0_; have HF := n1_; clear n1_; clear f' HI; have q0 := HB.out.cell 5; have z0 := HB.out.free 5; (simp only [bytU, eight, List.take, List.replicate, List.map_cons, List.map_nil, List.cons_append, List.nil_append, List.getElem?_cons_succ, List.getElem?_cons_zero] at q0)))
      go_roundw
      case rel => exact ⟨6, by omega, by go_num, HB.out.setCell 5 _, HF.out.setCell _ _ (.inl (HG.out ▸ Nat.le_refl _))⟩
      case measure => simp [intOf]
    · go_wp2_with (first
        | (go_at_call 20; (with_reducible refine (Page_at (HM.out.frm HF.out (fun h => h)) 6 6 rfl (by decide)).mono ?_); rintro e w' ⟨gp, rfl, hgp, hI, f'⟩; have HI := hid hI; have n0_ := hid (HB.out.frm f' (fun h => h)); have n1_ := hid (HF.out.trans f'); clear HB HF; have HB := n0_; clear n0_; have HF := n1_; clear n1_; clear f' hI hgp)
        | (go_at_call 13; (with_reducible refine (Leaf_calls 6 _ HI.out rfl (by have := page_len vs cs 6; omega) l6 H6.out).mono ?_); rintro e w' ⟨rfl, f'⟩; have n0_ := hid (HB.out.frm f' (fun h => h)); have n1_ := hid (HF.out.trans f'); clear HB HF; have HB := n0_; clear n0_; have HF := n1_; clear n1_; clear f' HI; have q0 := HB.out.cell 6; have z0 := HB.out.free 6; (simp only [bytU, eight, List.take, List.replicate, List.map_cons, List.map_nil, List.cons_append, List.nil_append, List.getElem?_cons_succ, List.getElem?_cons_zero] at q0)))
      go_roundw
      case rel => exact ⟨7, by omega, by go_num, HB.out.setCell 6 _, HF.out.setCell _ _ (.inl (HG.out ▸ Nat.le_refl _))⟩
      case measure => simp [intOf]
    · go_wp2_with (first
        | (go_at_call 20; (with_reducible refine (Page_at (HM.out.frm HF.out (fun h => h)) 7 7 rfl (by decide)).mono ?_); rintro e w' ⟨gp, rfl, hgp, hI, f'⟩; have HI := hid hI; have n0_ := hid (HB.out.frm f' (fun h => h)); have n1_ := hid (HF.out.trans f'); clear HB HF; have HB := n0_; clear n0_; have HF := n1_; clear n1_; clear f' hI hgp)
        | (go_at_call 13; (with_reducible refine (Leaf_calls 7 _ HI.out rfl (by have := page_len vs cs 7; omega) l7 H7.out).mono ?_); rintro e w' ⟨rfl, f'⟩; have n0_ := hid (HB.out.frm f' (fun h => h)); have n1_ := hid (HF.out.trans f'); clear HB HF; have HB := n0_; clear n0_; have HF := n1_; clear n1_; clear f' HI; have q0 := HB.out.cell 7; have z0 := HB.out.free 7; (simp only [bytU, eight, List.take, List.replicate, List.map_cons, List.map_nil, List.cons_append, List.nil_append, List.getElem?_cons_succ, List.getElem?_cons_zero] at q0)))
      go_roundw
      case rel => exact ⟨8, by omega, by go_num, HB.out.setCell 7 _, HF.out.setCell _ _ (.inl (HG.out ▸ Nat.le_refl _))⟩
      case measure => simp [intOf]
    · go_wp2
      go_ret
      refine ⟨g, rfl, HG.out ▸ Nat.le_refl _, ?_, HF.out⟩
      rw [HLL.out]
      refine IsInts.of_takeU HB.out (by rfl) (show 8 ≤ 8 from Nat.le_refl _) (by decide) (fun n hn => ?_)
      simp only [List.mem_cons, List.not_mem_nil, or_false] at hn
      rcases hn with rfl | rfl | rfl | rfl | rfl | rfl | rfl | rfl
      · rw [← H0.out]; exact wf_leaf vs cs 0 0
      · rw [← H1.out]; exact wf_leaf vs cs 1 1
      · rw [← H2.out]; exact wf_leaf vs cs 2 2
      · rw [← H3.out]; exact wf_leaf vs cs 3 3
      · rw [← H4.out]; exact wf_leaf vs cs 4 4
      · rw [← H5.out]; exact wf_leaf vs cs 5 5
      · rw [← H6.out]; exact wf_leaf vs cs 6 6
      · rw [← H7.out]; exact wf_leaf vs cs 7 7
theorem Of_calls {w : World} {b : Nat} {vs cs : List Int} (h : IsMap w b vs cs) (S : Int) (hS : rootS (sumsL vs cs) = S) :
    Calls Try.prog 18 #[.pointer (some ⟨b, 0, none⟩)] w fun e w' => e = .returned (.int .u64 S) ∧ Frm (fun _ => False) w w' := by
  have H := hid h; have HS := hid hS; clear h hS
  go_enter Try.func18, Try.ntmps18
  go_wp2_with (first
    | (go_at_call 17; (with_reducible refine (Sums_calls H.out _ rfl).mono ?_); rintro e w' ⟨g, rfl, hg, hI, f'⟩; have HI := hid hI; have HF := hid f'; clear hI f' hg)
    | (go_at_call 11; (with_reducible refine (Root_calls 8 HI.out rfl S HS.out).mono ?_); rintro e w' ⟨rfl, f'⟩; have HF2 := hid (HF.out.trans f'); clear f'))
  go_ret
  exact ⟨rfl, HF2.out⟩
/-- Which of the first k are unlike. -/
theorem one_intsI3 (w : World) (k : Nat) (hk : k ≤ 8) : IsInts .i64 (w.alloc (.cells #[.int .i64 (k : Int)] 3)).drew (some ⟨w.heap.size, 0, none⟩) 1 [(k : Int)] := (one_intsI w _ _ (by simp [Lit.wf, IntKind.min, IntKind.max, IntKind.bits, IntKind.signed]; omega)).frm (frm_drew _) (fun _ _ h => h)
def unl (x y : List Int) (k : Nat) : List Int := ((List.range k).filter fun i => x.length ≠ 8 ∨ y.length ≠ 8 ∨ x.getD i 0 ≠ y.getD i 0).map fun i : Nat => (i : Int)
theorem unl_succ (x y : List Int) (k : Nat) : unl x y (k + 1) = unl x y k ++ (if x.length ≠ 8 ∨ y.length ≠ 8 ∨ x.getD k 0 ≠ y.getD k 0 then [(k : Int)] else []) := by
  unfold unl
  rw [List.range_succ, List.filter_append, List.map_append]
  congr 1
  by_cases h : x.length ≠ 8 ∨ y.length ≠ 8 ∨ x.getD k 0 ≠ y.getD k 0
  · rw [if_pos h, List.filter_cons, if_pos (decide_eq_true h)]; rfl
  · rw [if_neg h, List.filter_cons, if_neg (by simpa using h)]; rfl
theorem unl_len (x y : List Int) (k : Nat) : (unl x y k).length ≤ k := by
  unfold unl; rw [List.length_map]; have := List.length_filter_le (fun i => decide (x.length ≠ 8 ∨ y.length ≠ 8 ∨ x.getD i 0 ≠ y.getD i 0)) (List.range k); rw [List.length_range] at this; exact this
theorem one_intsI2 (w : World) (k : Nat) (hk : k ≤ 8) : IsInts .i64 (w.alloc (.cells #[.int .i64 (k : Int)] 3)) (some ⟨w.heap.size, 0, none⟩) 1 [(k : Int)] := one_intsI w _ _ (by simp [Lit.wf, IntKind.min, IntKind.max, IntKind.bits, IntKind.signed]; omega)
set_option maxHeartbeats 8000000 in
theorem Unlike_a {w : World} {A B : Option Addr} {c d : Nat} {x y : List Int} (n m : Nat) (hn : x.length = n) (hne : n ≠ 8) :
    Calls Try.prog 12 #[.slice A n c, .slice B m d] w fun e w' => ∃ a c', e = .returned (.slice a (unl x y 8).length c') ∧ IsInts .i64 w' a c' (unl x y 8) ∧ Frm (fun _ => False) w w' := by
  have HDIF : ∀ {k : Nat}, Hid (x.length ≠ 8 ∨ y.length ≠ 8 ∨ x.getD k 0 ≠ y.getD k 0) := fun {k} => hid (.inl (by omega))
  have q1 : ((n : Int) == 8) = false := beq_eq_false_iff_ne.2 (by omega)
  have q2 : ((n : Int) != 8) = true := bne_iff_ne.2 (by omega)
  clear hn hne
  go_enter Try.func12, Try.ntmps12
  go_wp2
  go_loopw [6, 16] (fun ov i wr => ∃ (k : Nat) (a : Option Addr) (l c' : Nat), k ≤ 8 ∧ ov = .slice a l c' ∧ i = .int .i64 k ∧ OwnBI wr (fun k => k < w.heap.size) (.slice a l c') (unl x y k) ∧ Below w.heap.size w wr) (fun _ i _ => 8 - (intOf i).toNat)
  case atStart => exact ⟨0, none, 0, 0, by omega, rfl, rfl, OwnBI.nil _ _, Below.refl _ _⟩
  case round =>
    obtain ⟨k, a, l, c', hk, rfl, rfl, hv, hf⟩ := hrel
    have HV := hid hv; have HF := hid hf; clear hv hf
    by_cases hlt : k < 8
    · have hk8 := hid (show k ≤ 8 by omega)
      have hk7 : (k : Int) < 8 := by omega
      have HLN := hid (show (unl x y k).length + 1 ≤ 1000000 by have := unl_len x y k; omega)
      · have HSC := hid (show unl x y (k + 1) = unl x y k ++ [(k : Int)] by rw [unl_succ, if_pos HDIF.out])
        go_wp2
        refine wp_region_held_drew (S := fun wx => True) (by kernel_rfl) (by trivial) (fun hHeld => ?_)
        refine wpAnyH_take (i := 0) (oi := ⟨some 19, _, _, _, _, _⟩) (v := ?v1) rfl (by kernel_rfl) (by kernel_rfl) (by kernel_rfl) (fun _ _ _ h => h) (Or.inl ⟨by rfl, ?y1⟩) (by assumption) ?r1
        case y1 => (intro wx hSx; (try dsimp only at hSx); go_simp; (try with_reducible rfl))
        try simp only [Act.put, List.setIfInBounds_toArray, List.set_cons_zero, List.set_cons_succ]
        refine wpAnyH_take (i := 1) (oi := ⟨some 20, _, _, _, _, _⟩) (v := ?v2) rfl (by kernel_rfl) (by kernel_rfl) (by kernel_rfl) (fun _ _ _ h => h) (Or.inl ⟨by rfl, ?y2⟩) (by assumption) ?r2
        case y2 => (intro wx hSx; (try dsimp only at hSx); go_simp; (try with_reducible rfl))
        try simp only [Act.put, List.setIfInBounds_toArray, List.set_cons_zero, List.set_cons_succ]
        refine wpAnyH_take (i := 2) (oi := ⟨some 21, _, _, _, _, _⟩) (v := undef) rfl (by kernel_rfl) (by kernel_rfl) (by kernel_rfl) (fun _ _ _ h => h) (Or.inr ⟨by rfl, rfl⟩) (by assumption) ?_
        try simp only [Act.put, List.setIfInBounds_toArray, List.set_cons_zero, List.set_cons_succ]
        refine wpAnyH_take (i := 3) (oi := ⟨some 22, _, _, _, _, _⟩) (v := undef) rfl (by kernel_rfl) (by kernel_rfl) (by kernel_rfl) (fun _ _ _ h => h) (Or.inr ⟨by rfl, rfl⟩) (by assumption) ?_
        try simp only [Act.put, List.setIfInBounds_toArray, List.set_cons_zero, List.set_cons_succ]
        refine wpAnyH_take (i := 4) (oi := ⟨some 23, _, _, _, _, _⟩) (v := undef) rfl (by kernel_rfl) (by kernel_rfl) (by kernel_rfl) (fun _ _ _ h => h) (Or.inr ⟨by rfl, rfl⟩) (by assumption) ?_
        try simp only [Act.put, List.setIfInBounds_toArray, List.set_cons_zero, List.set_cons_succ]
        refine wpAnyH_take (i := 5) (oi := ⟨some 24, _, _, _, _, _⟩) (v := undef) rfl (by kernel_rfl) (by kernel_rfl) (by kernel_rfl) (fun _ _ _ h => h) (Or.inr ⟨by rfl, rfl⟩) (by assumption) ?_
        try simp only [Act.put, List.setIfInBounds_toArray, List.set_cons_zero, List.set_cons_succ]
        refine wpAnyH_take (i := 6) (oi := ⟨some 25, _, _, _, _, _⟩) (v := undef) rfl (by kernel_rfl) (by kernel_rfl) (by kernel_rfl) (fun _ _ _ h => h) (Or.inr ⟨by rfl, rfl⟩) (by assumption) ?_
        try simp only [Act.put, List.setIfInBounds_toArray, List.set_cons_zero, List.set_cons_succ]
        refine wpAnyH_take (i := 7) (oi := ⟨some 26, _, _, _, _, _⟩) (v := undef) rfl (by kernel_rfl) (by kernel_rfl) (by kernel_rfl) (fun _ _ _ h => h) (Or.inr ⟨by rfl, rfl⟩) (by assumption) ?_
        try simp only [Act.put, List.setIfInBounds_toArray, List.set_cons_zero, List.set_cons_succ]
        refine wpAnyH_take (i := 8) (oi := ⟨some 27, _, _, _, _, _⟩) (v := undef) rfl (by kernel_rfl) (by kernel_rfl) (by kernel_rfl) (fun _ _ _ h => h) (Or.inr ⟨by rfl, rfl⟩) (by assumption) ?_
        try simp only [Act.put, List.setIfInBounds_toArray, List.set_cons_zero, List.set_cons_succ]
        refine wpAnyH_take (i := 9) (oi := ⟨some 28, _, _, _, _, _⟩) (v := undef) rfl (by kernel_rfl) (by kernel_rfl) (by kernel_rfl) (fun _ _ _ h => h) (Or.inr ⟨by rfl, rfl⟩) (by assumption) ?_
        try simp only [Act.put, List.setIfInBounds_toArray, List.set_cons_zero, List.set_cons_succ]
        refine wpAnyH_take (i := 10) (oi := ⟨some 29, _, _, _, _, _⟩) (v := undef) rfl (by kernel_rfl) (by kernel_rfl) (by kernel_rfl) (fun _ _ _ h => h) (Or.inr ⟨by rfl, rfl⟩) (by assumption) ?_
        try simp only [Act.put, List.setIfInBounds_toArray, List.set_cons_zero, List.set_cons_succ]
        refine wpAnyH_take (i := 11) (oi := ⟨some 30, _, _, _, _, _⟩) (v := ?v3) rfl (by kernel_rfl) (by kernel_rfl) (by kernel_rfl) (fun _ _ _ h => h) (Or.inl ⟨by rfl, ?y3⟩) (by assumption) ?r3
        case y3 => (intro wx hSx; (try dsimp only at hSx); go_simp; (try with_reducible rfl))
        try simp only [Act.put, List.setIfInBounds_toArray, List.set_cons_zero, List.set_cons_succ]
        refine wpAnyH_done (by kernel_rfl) ?_ _
        go_wp2_with ((at_builtin; refine wpList_moreI rfl _ _ rfl rfl (HV.out.frm0 (((Frm.refl _ wr).alloc _).drew)) (fun k hk => by have := HF.out.size; simp; omega) (one_intsI3 wr k hk8.out) (show ([(k : Int)] : List Int).length = 1 from rfl) (by have := HLN.out; omega) rfl rfl ?_; intro a' l' c' wq ho' hf' hat'; have HF2 := hid ((bdrew (HF.out.alloc HF.out.size _)).trans (hf'.below (by have := HF.out.size; simp; omega) (fun k hk hn => HV.out.off k hn hk))); clear HF HV hf' hat'; have HF := HF2; have HV := hid ho'; clear ho' HF2))
        go_roundw
        case rel => exact ⟨k + 1, _, _, _, by omega, rfl, by go_num, by rw [HSC.out]; exact HV.out, HF.out⟩
        case measure => simp [intOf]; omega
    · obtain rfl : k = 8 := by omega
      go_wp2
      go_ret
      obtain ⟨a9, c9, e9, hi9, _⟩ := HV.out.ints
      cases e9
      exact ⟨_, _, rfl, hi9, frm0_of HF.out⟩
set_option maxHeartbeats 8000000 in
theorem Unlike_b {w : World} {A B : Option Addr} {c d : Nat} {x y : List Int} (m : Nat) (hm : y.length = m) (hne : m ≠ 8) :
    Calls Try.prog 12 #[.slice A 8 c, .slice B m d] w fun e w' => ∃ a c', e = .returned (.slice a (unl x y 8).length c') ∧ IsInts .i64 w' a c' (unl x y 8) ∧ Frm (fun _ => False) w w' := by
  have HDIF : ∀ {k : Nat}, Hid (x.length ≠ 8 ∨ y.length ≠ 8 ∨ x.getD k 0 ≠ y.getD k 0) := fun {k} => hid (.inr (.inl (by omega)))
  have q1 : ((m : Int) == 8) = false := beq_eq_false_iff_ne.2 (by omega)
  have q2 : ((m : Int) != 8) = true := bne_iff_ne.2 (by omega)
  clear hm hne
  go_enter Try.func12, Try.ntmps12
  go_wp2
  go_loopw [6, 16] (fun ov i wr => ∃ (k : Nat) (a : Option Addr) (l c' : Nat), k ≤ 8 ∧ ov = .slice a l c' ∧ i = .int .i64 k ∧ OwnBI wr (fun k => k < w.heap.size) (.slice a l c') (unl x y k) ∧ Below w.heap.size w wr) (fun _ i _ => 8 - (intOf i).toNat)
  case atStart => exact ⟨0, none, 0, 0, by omega, rfl, rfl, OwnBI.nil _ _, Below.refl _ _⟩
  case round =>
    obtain ⟨k, a, l, c', hk, rfl, rfl, hv, hf⟩ := hrel
    have HV := hid hv; have HF := hid hf; clear hv hf
    by_cases hlt : k < 8
    · have hk8 := hid (show k ≤ 8 by omega)
      have hk7 : (k : Int) < 8 := by omega
      have HLN := hid (show (unl x y k).length + 1 ≤ 1000000 by have := unl_len x y k; omega)
      · have HSC := hid (show unl x y (k + 1) = unl x y k ++ [(k : Int)] by rw [unl_succ, if_pos HDIF.out])
        go_wp2
        refine wp_region_held_drew (S := fun wx => True) (by kernel_rfl) (by trivial) (fun hHeld => ?_)
        refine wpAnyH_take (i := 0) (oi := ⟨some 19, _, _, _, _, _⟩) (v := ?v1) rfl (by kernel_rfl) (by kernel_rfl) (by kernel_rfl) (fun _ _ _ h => h) (Or.inl ⟨by rfl, ?y1⟩) (by assumption) ?r1
        case y1 => (intro wx hSx; (try dsimp only at hSx); go_simp; (try with_reducible rfl))
        try simp only [Act.put, List.setIfInBounds_toArray, List.set_cons_zero, List.set_cons_succ]
        refine wpAnyH_take (i := 1) (oi := ⟨some 20, _, _, _, _, _⟩) (v := ?v2) rfl (by kernel_rfl) (by kernel_rfl) (by kernel_rfl) (fun _ _ _ h => h) (Or.inl ⟨by rfl, ?y2⟩) (by assumption) ?r2
        case y2 => (intro wx hSx; (try dsimp only at hSx); go_simp; (try with_reducible rfl))
        try simp only [Act.put, List.setIfInBounds_toArray, List.set_cons_zero, List.set_cons_succ]
        refine wpAnyH_take (i := 2) (oi := ⟨some 21, _, _, _, _, _⟩) (v := undef) rfl (by kernel_rfl) (by kernel_rfl) (by kernel_rfl) (fun _ _ _ h => h) (Or.inr ⟨by rfl, rfl⟩) (by assumption) ?_
        try simp only [Act.put, List.setIfInBounds_toArray, List.set_cons_zero, List.set_cons_succ]
        refine wpAnyH_take (i := 3) (oi := ⟨some 22, _, _, _, _, _⟩) (v := undef) rfl (by kernel_rfl) (by kernel_rfl) (by kernel_rfl) (fun _ _ _ h => h) (Or.inr ⟨by rfl, rfl⟩) (by assumption) ?_
        try simp only [Act.put, List.setIfInBounds_toArray, List.set_cons_zero, List.set_cons_succ]
        refine wpAnyH_take (i := 4) (oi := ⟨some 23, _, _, _, _, _⟩) (v := undef) rfl (by kernel_rfl) (by kernel_rfl) (by kernel_rfl) (fun _ _ _ h => h) (Or.inr ⟨by rfl, rfl⟩) (by assumption) ?_
        try simp only [Act.put, List.setIfInBounds_toArray, List.set_cons_zero, List.set_cons_succ]
        refine wpAnyH_take (i := 5) (oi := ⟨some 24, _, _, _, _, _⟩) (v := undef) rfl (by kernel_rfl) (by kernel_rfl) (by kernel_rfl) (fun _ _ _ h => h) (Or.inr ⟨by rfl, rfl⟩) (by assumption) ?_
        try simp only [Act.put, List.setIfInBounds_toArray, List.set_cons_zero, List.set_cons_succ]
        refine wpAnyH_take (i := 6) (oi := ⟨some 25, _, _, _, _, _⟩) (v := undef) rfl (by kernel_rfl) (by kernel_rfl) (by kernel_rfl) (fun _ _ _ h => h) (Or.inr ⟨by rfl, rfl⟩) (by assumption) ?_
        try simp only [Act.put, List.setIfInBounds_toArray, List.set_cons_zero, List.set_cons_succ]
        refine wpAnyH_take (i := 7) (oi := ⟨some 26, _, _, _, _, _⟩) (v := undef) rfl (by kernel_rfl) (by kernel_rfl) (by kernel_rfl) (fun _ _ _ h => h) (Or.inr ⟨by rfl, rfl⟩) (by assumption) ?_
        try simp only [Act.put, List.setIfInBounds_toArray, List.set_cons_zero, List.set_cons_succ]
        refine wpAnyH_take (i := 8) (oi := ⟨some 27, _, _, _, _, _⟩) (v := undef) rfl (by kernel_rfl) (by kernel_rfl) (by kernel_rfl) (fun _ _ _ h => h) (Or.inr ⟨by rfl, rfl⟩) (by assumption) ?_
        try simp only [Act.put, List.setIfInBounds_toArray, List.set_cons_zero, List.set_cons_succ]
        refine wpAnyH_take (i := 9) (oi := ⟨some 28, _, _, _, _, _⟩) (v := undef) rfl (by kernel_rfl) (by kernel_rfl) (by kernel_rfl) (fun _ _ _ h => h) (Or.inr ⟨by rfl, rfl⟩) (by assumption) ?_
        try simp only [Act.put, List.setIfInBounds_toArray, List.set_cons_zero, List.set_cons_succ]
        refine wpAnyH_take (i := 10) (oi := ⟨some 29, _, _, _, _, _⟩) (v := undef) rfl (by kernel_rfl) (by kernel_rfl) (by kernel_rfl) (fun _ _ _ h => h) (Or.inr ⟨by rfl, rfl⟩) (by assumption) ?_
        try simp only [Act.put, List.setIfInBounds_toArray, List.set_cons_zero, List.set_cons_succ]
        refine wpAnyH_take (i := 11) (oi := ⟨some 30, _, _, _, _, _⟩) (v := ?v3) rfl (by kernel_rfl) (by kernel_rfl) (by kernel_rfl) (fun _ _ _ h => h) (Or.inl ⟨by rfl, ?y3⟩) (by assumption) ?r3
        case y3 => (intro wx hSx; (try dsimp only at hSx); go_simp; (try with_reducible rfl))
        try simp only [Act.put, List.setIfInBounds_toArray, List.set_cons_zero, List.set_cons_succ]
        refine wpAnyH_done (by kernel_rfl) ?_ _
        go_wp2_with ((at_builtin; refine wpList_moreI rfl _ _ rfl rfl (HV.out.frm0 (((Frm.refl _ wr).alloc _).drew)) (fun k hk => by have := HF.out.size; simp; omega) (one_intsI3 wr k hk8.out) (show ([(k : Int)] : List Int).length = 1 from rfl) (by have := HLN.out; omega) rfl rfl ?_; intro a' l' c' wq ho' hf' hat'; have HF2 := hid ((bdrew (HF.out.alloc HF.out.size _)).trans (hf'.below (by have := HF.out.size; simp; omega) (fun k hk hn => HV.out.off k hn hk))); clear HF HV hf' hat'; have HF := HF2; have HV := hid ho'; clear ho' HF2))
        go_roundw
        case rel => exact ⟨k + 1, _, _, _, by omega, rfl, by go_num, by rw [HSC.out]; exact HV.out, HF.out⟩
        case measure => simp [intOf]; omega
    · obtain rfl : k = 8 := by omega
      go_wp2
      go_ret
      obtain ⟨a9, c9, e9, hi9, _⟩ := HV.out.ints
      cases e9
      exact ⟨_, _, rfl, hi9, frm0_of HF.out⟩
set_option maxHeartbeats 8000000 in
theorem Unlike_c {w : World} {A B : Option Addr} {c d : Nat} {x y : List Int} (hx : IsInts .u64 w A c x) (hy : IsInts .u64 w B d y) (hn : x.length = 8) (hm : y.length = 8) :
    Calls Try.prog 12 #[.slice A 8 c, .slice B 8 d] w fun e w' => ∃ a c', e = .returned (.slice a (unl x y 8).length c') ∧ IsInts .i64 w' a c' (unl x y 8) ∧ Frm (fun _ => False) w w' := by
  have hle := hx.le; have hle2 := hy.le; have hsm := hx.small; have hsm2 := hy.small
  rw [hn] at hle
  rw [hm] at hle2
  have HX := hid hx; have HY := hid hy; have HN := hid hn; have HM := hid hm
  clear hx hy hn hm
  go_enter Try.func12, Try.ntmps12
  go_wp2
  go_loopw [6, 16] (fun ov i wr => ∃ (k : Nat) (a : Option Addr) (l c' : Nat), k ≤ 8 ∧ ov = .slice a l c' ∧ i = .int .i64 k ∧ OwnBI wr (fun k => k < w.heap.size) (.slice a l c') (unl x y k) ∧ Below w.heap.size w wr) (fun _ i _ => 8 - (intOf i).toNat)
  case atStart => exact ⟨0, none, 0, 0, by omega, rfl, rfl, OwnBI.nil _ _, Below.refl _ _⟩
  case round =>
    obtain ⟨k, a, l, c', hk, rfl, rfl, hv, hf⟩ := hrel
    have HV := hid hv; have HF := hid hf; clear hv hf
    by_cases hlt : k < 8
    · have hk8 := hid (show k ≤ 8 by omega)
      have hk7 : (k : Int) < 8 := by omega
      have HLN := hid (show (unl x y k).length + 1 ≤ 1000000 by have := unl_len x y k; omega)
      · obtain ⟨ga, oa, rfl, hga, hca⟩ := HX.out.at_ (by have := HN.out; omega)
        obtain ⟨gb, ob, rfl, hgb, hcb⟩ := HY.out.at_ (by have := HM.out; omega)
        have q0 := (HF.out.cell (p := ⟨ga, oa + k, none⟩) hga).trans (hca k (by have := HN.out; omega))
        have q1 := (HF.out.cell (p := ⟨gb, ob + k, none⟩) hgb).trans (hcb k (by have := HM.out; omega))
        have hsc := unl_succ x y k
        obtain ⟨u, hu⟩ : ∃ u, x.getD k 0 = u := ⟨_, rfl⟩
        obtain ⟨v, hv⟩ : ∃ v, y.getD k 0 = v := ⟨_, rfl⟩
        rw [hu] at q0 hsc
        rw [hv] at q1 hsc
        clear hca hcb hu hv
        by_cases huv : u = v
        · have qe : (u == v) = true := beq_iff_eq.2 huv
          have qn : (u != v) = false := by rw [bne, qe]; rfl
          have HSC := hid (show unl x y (k + 1) = unl x y k by rw [hsc, if_neg (by have := HN.out; have := HM.out; omega), List.append_nil])
          clear hsc huv
          go_wp2
          go_region_held3 (fun wx => wx.cell? ⟨ga, oa + k, none⟩ = some (.int .u64 u) ∧ wx.cell? ⟨gb, ob + k, none⟩ = some (.int .u64 v)) (go_keep) (fail)
          go_wp2
          go_roundw
          case rel => exact ⟨k + 1, _, _, _, by omega, rfl, by go_num, by rw [HSC.out]; exact HV.out.frm0 (frm_drew _), bdrew HF.out⟩
          case measure => simp [intOf]; omega
        · have qe : (u == v) = false := beq_eq_false_iff_ne.2 huv
          have qn : (u != v) = true := bne_iff_ne.2 huv
          have HSC := hid (show unl x y (k + 1) = unl x y k ++ [(k : Int)] by rw [hsc, if_pos (.inr (.inr huv))])
          clear hsc huv
          go_wp2
          go_region_held3 (fun wx => wx.cell? ⟨ga, oa + k, none⟩ = some (.int .u64 u) ∧ wx.cell? ⟨gb, ob + k, none⟩ = some (.int .u64 v)) (go_keep) (fail)
          go_wp2_with ((at_builtin; refine wpList_moreI rfl _ _ rfl rfl (HV.out.frm0 (((Frm.refl _ wr).alloc _).drew)) (fun k hk => by have := HF.out.size; simp; omega) (one_intsI3 wr k hk8.out) (show ([(k : Int)] : List Int).length = 1 from rfl) (by have := HLN.out; omega) rfl rfl ?_; intro a' l' c' wq ho' hf' hat'; have HF2 := hid ((bdrew (HF.out.alloc HF.out.size _)).trans (hf'.below (by have := HF.out.size; simp; omega) (fun k hk hn => HV.out.off k hn hk))); clear HF HV hf' hat'; have HF := HF2; have HV := hid ho'; clear ho' HF2))
          go_roundw
          case rel => exact ⟨k + 1, _, _, _, by omega, rfl, by go_num, by rw [HSC.out]; exact HV.out, HF.out⟩
          case measure => simp [intOf]; omega
    · obtain rfl : k = 8 := by omega
      go_wp2
      go_ret
      obtain ⟨a9, c9, e9, hi9, _⟩ := HV.out.ints
      cases e9
      exact ⟨_, _, rfl, hi9, frm0_of HF.out⟩
theorem Unlike_calls {w : World} {A B : Option Addr} {c d : Nat} {x y : List Int} (n m : Nat) (hx : IsInts .u64 w A c x) (hy : IsInts .u64 w B d y) (hn : x.length = n) (hm : y.length = m) :
    Calls Try.prog 12 #[.slice A n c, .slice B m d] w fun e w' => ∃ a c', e = .returned (.slice a (unl x y 8).length c') ∧ IsInts .i64 w' a c' (unl x y 8) ∧ Frm (fun _ => False) w w' := by
  by_cases h1 : n = 8
  · by_cases h2 : m = 8
    · subst h1 h2; exact Unlike_c hx hy hn hm
    · subst h1; exact Unlike_b m hm h2
  · exact Unlike_a n m hn h1
end Go.Proofs.Ytknaalaajmhjgaa
