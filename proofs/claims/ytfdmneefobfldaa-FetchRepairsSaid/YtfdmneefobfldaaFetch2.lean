/- Repair by pages: the right sums; its methods Page, Done. -/
import Derived.Test.YtfdmneefobfldaaFetch
namespace Go.Proofs.Ytfdmneefobfldaa
open Go.RowKit Go.ChangeShapes
set_option linter.unusedVariables false
set_option linter.unusedSimpArgs false
set_option maxRecDepth 20000
theorem wrap_i64_small (p : Nat) (h : p < 1000) : IntKind.i64.wrap (p : Int) = (p : Int) := by simp only [IntKind.wrap, IntKind.bits, IntKind.signed]; simp; omega
theorem list_getD_mem {l : List Int} {k : Nat} (h : k < l.length) : l.getD k 0 ∈ l := by
  rw [List.getD_eq_getElem?_getD, List.getElem?_eq_getElem h]; exact List.getElem_mem h
theorem take_snoc (l : List Int) (k : Nat) (h : k < l.length) : l.take (k + 1) = l.take k ++ [l.getD k 0] := by
  rw [List.take_add_one, List.getD_eq_getElem?_getD, List.getElem?_eq_getElem h]; rfl
theorem frm_fb {w a b : World} {fb : Nat} (h : Frm (· = fb) w a) (f : Frm (fun _ => False) a b) : Frm (· = fb) w b := h.trans (f.mono (fun _ _ h => h.elim))
theorem fe_set {w : World} {fb mb g c : Nat} {sq root : Int} {vs cs S : List Int} {wl wl' : List Bool} (h : IsFe1 w fb mb g c sq root vs cs S wl) {P : Nat} {x : Bool} (hw : wl' = wl.set P x) : IsFe1 (w.setCell ⟨fb, 4 + P, none⟩ (.bool x)) fb mb g c sq root vs cs S wl' := by
  subst hw
  have f : Frm (· = fb) w (w.setCell ⟨fb, 4 + P, none⟩ (.bool x)) := (Frm.refl _ _).setCell _ _ (.inr rfl)
  exact ⟨fc_set (sq := sq) (root := root) P x ▸ h.blk.setCell (4 + P) (.bool x), h.map.frm f h.ne, h.ne, h.sums.frm f (fun p hp => by cases hp; exact h.gf), h.len, by rw [List.length_set]; exact h.lw, h.gf, h.gm⟩
theorem fe_make {w : World} {fb mb g c : Nat} {sq root : Int} {vs cs S : List Int} (h : IsFe0 w fb mb sq root vs cs) (hs : IsInts .u64 w (some ⟨g, 0, none⟩) c S) (h8 : S.length = 8) (hgf : g ≠ fb) (hgm : g ≠ mb) :
    IsFe1 (w.setCell ⟨fb, 3, none⟩ (.slice (some ⟨g, 0, none⟩) 8 c)) fb mb g c sq root vs cs S (List.replicate 8 false) := by
  have f : Frm (· = fb) w (w.setCell ⟨fb, 3, none⟩ (.slice (some ⟨g, 0, none⟩) 8 c)) := (Frm.refl _ _).setCell _ _ (.inr rfl)
  exact ⟨fc_sums (sq := sq) (root := root) (sv' := .slice (some ⟨g, 0, none⟩) 8 c) ▸ h.blk.setCell 3 _, h.map.frm f h.ne, h.ne, hs.frm f (fun p hp => by cases hp; exact hgf), h8, rfl, hgf, hgm⟩
theorem fe_keepL {w : World} {fb mb : Nat} {sq root : Int} {vs cs l : List Int} {A : Option Addr} {d : Nat} (h : IsFe0 w fb mb sq root vs cs) (hl : IsInts .u64 w A d l) (h8 : l.length = 8) (v : Value) : IsInts .u64 (w.setCell ⟨fb, 3, none⟩ v) A d l := by
  have f : Frm (· = fb) w (w.setCell ⟨fb, 3, none⟩ v) := (Frm.refl _ _).setCell _ _ (.inr rfl)
  refine hl.frm f (fun p hp => ?_)
  subst hp
  rintro rfl
  obtain ⟨g', o', e, _, hc⟩ := hl.at_ (by omega)
  cases e
  have c0 := hc 0 (by omega)
  have c2 := hc 2 (by omega)
  rw [h.blk.cell] at c0 c2
  rcases o' with _ | o'
  · simp only [fcells, Nat.add_zero, List.getElem?_cons_zero] at c0
    cases c0
  · have hm := List.mem_of_getElem? c2
    simp only [fcells] at c2
    rw [show o' + 1 + 2 = o' + 3 by omega] at c2
    simp only [List.getElem?_cons_succ] at c2
    have hm := List.mem_of_getElem? c2
    simp only [List.mem_cons, List.mem_map] at hm
    rcases hm with e | ⟨_, _, e⟩ <;> cases e
set_option maxHeartbeats 8000000 in
theorem FSums_ok {w : World} {fb mb : Nat} {sq root : Int} {vs cs : List Int} (h : IsFe0 w fb mb sq root vs cs) {A : Option Addr} {n d : Nat} {l : List Int} (hl : IsInts .u64 w A d l) (hn : l.length = n) (h8 : n = 8) (hR : rootS l = root) (X : List Int) (hX : sumsL vs cs = X) :
    Calls Try.prog 13 #[.pointer (some ⟨fb, 0, none⟩), .slice A n d] w fun e w' => ∃ g c, e = .returned (.int .i64 0) ∧ IsFe1 w' fb mb g c sq root vs cs l (setT (unl X l 8)) ∧ Frm (· = fb) w w' ∧ w.heap.size ≤ g := by
  subst h8
  have HE := hid h; have HL := hid (hl.frm (frm_drew w) (fun _ _ h => h)); have HN := hid hn; have HR := hid hR; have HX := hid hX
  have HX8 := hid (show X.length = 8 by rw [← hX]; rfl)
  clear h hl hn hR hX
  have x0 := eqN; have x1 := neN; have x2 := eqS; have x3 := neS; have q0 := HE.out.blk.cell 0; have q1 := HE.out.blk.cell 1; have q2 := HE.out.blk.cell 2; have q3 := HE.out.blk.cell 3; (simp only [fcells, List.getElem?_cons_succ, List.getElem?_cons_zero] at q0 q1 q2 q3)
  have HF := hid (frm_drew w)
  have HLT := hid HE.out.blk.lt
  go_enter Try.func13, Try.ntmps13
  go_wp2
  go_region_held3 (fun wx => wx.cell? ⟨fb, 1, none⟩ = some (.int .u64 root)) (first | go_keep | exact r1) ((go_at_call 18; (with_reducible refine (Root_calls 8 HL.out HN.out root HR.out).mono ?_); rintro e w' ⟨rfl, f'⟩; have r1 := ((frm_drew w).trans f').cell (p := ⟨fb, 1, none⟩) HE.out.blk.lt (fun h => h); (rw [q1] at r1); have HE1 := hid (HE.out.quiet ((frm_drew w).trans f')); have HL1 := hid (HL.out.frm f' (fun _ _ h => h)); have HF2 := hid (HF.out.trans f'); clear f' HF; have HF := HF2; clear HF2))
  clear q0 q1 q2 q3 r1
  go_wp2_with (first
    | (go_at_call 39; (with_reducible refine (Clone_calls HL1.out HN.out rfl).mono ?_); rintro e w' ⟨g, c, rfl, hg, hI, f'⟩; have HGN := hid (Nat.le_trans HF.out.size hg); have HE3 := hid (HE1.out.quiet (frm0_of f')); have HS := hid hI; have HL2 := hid (HL1.out.frm (frm0_of f') (fun _ _ h => h)); have HGF := hid (show g ≠ fb from fun e => by have := HE1.out.blk.lt; omega); have HGM := hid (show g ≠ mb from fun e => by have := HE1.out.map.blk.lt; omega); have HF2 := hid ((HF.out.trans (frm0_of f')).mono (S' := (· = fb)) (fun _ _ h => h.elim)); clear HF f' hI hg; have HF := HF2; clear HF2; have z3 := HE3.out.blk.free 3; have q0 := HE3.out.blk.cell 0; have q1 := HE3.out.blk.cell 1; have q2 := HE3.out.blk.cell 2; have q3 := HE3.out.blk.cell 3; (simp only [fcells, List.getElem?_cons_succ, List.getElem?_cons_zero] at q0 q1 q2 q3); have HE2 := hid (fe_make HE3.out HS.out HN.out HGF.out HGM.out); have HL3 := hid (fe_keepL HE3.out HL2.out HN.out (.slice (some ⟨g, 0, none⟩) 8 c)); have HF3 := hid (HF.out.setCell ⟨fb, 3, none⟩ (.slice (some ⟨g, 0, none⟩) 8 c) (.inr rfl)))
    | (go_at_call 14; (with_reducible refine (Sums_calls HE2.out.map X HX.out).mono ?_); rintro e w' ⟨gs, rfl, hg, hI, f'⟩; have HXI := hid hI; have n0_ := hid (HE2.out.quiet f'); have n1_ := hid (HL3.out.frm f' (fun _ _ h => h)); have n2_ := hid (frm_fb HF3.out f'); clear HE2 HL3 HF3; have HE2 := n0_; clear n0_; have HL3 := n1_; clear n1_; have HF3 := n2_; clear n2_; clear f' hg hI)
    | (go_at_call 15; (with_reducible refine (Unlike_calls 8 8 HXI.out HL3.out HX8.out HN.out).mono ?_); rintro e w' ⟨ua, uc, rfl, hU, f'⟩; have HI := hid hU; have n0_ := hid (HE2.out.quiet f'); have n1_ := hid (frm_fb HF3.out f'); clear HE2 HF3; have HE2 := n0_; clear n0_; have HF3 := n1_; clear n1_; clear HF f' hU; have HF := HF3; clear HF3))
  generalize hu : unl X l 8 = U at *
  have HU := hid hu; clear hu
  have HU8 := hid (show U.length ≤ 8 from HU.out ▸ unl_len X l 8)
  have HUM := hid (show ∀ p ∈ U, 0 ≤ p ∧ p < 8 from fun p hp => by rw [← HU.out] at hp; have := unl_mem hp; omega)
  go_loopw [40] (fun i wr => ∃ (k : Nat), k ≤ U.length ∧ i = .int .i64 k ∧ IsFe1 wr fb mb g c sq root vs cs l (setT (U.take k)) ∧ IsInts .i64 wr ua uc U ∧ Frm (· = fb) w wr) (fun i _ => U.length - (intOf i).toNat)
  case atStart => exact ⟨0, by omega, rfl, HE2.out, HI.out, HF.out⟩
  case round =>
    clear HE2 HI HF q0 q1 q2 q3 z3
    obtain ⟨k, hk, rfl, he, hi, hf⟩ := hrel
    have HE2 := hid he; have HI := hid hi; have HF := hid hf; clear he hi hf
    by_cases hlt : k < U.length
    · obtain ⟨ub, uo, rfl, hub, hcell⟩ := HI.out.at_ (by omega)
      have r0 := hcell k hlt
      obtain ⟨hp0, hp8⟩ := HUM.out _ (list_getD_mem hlt)
      have HTK := hid (take_snoc U k hlt)
      obtain ⟨P, hP⟩ := Int.eq_ofNat_of_zero_le hp0
      rw [hP] at r0 hp8
      have HP := hid hP; clear hP hp0 hcell
      have hP8 : P < 8 := by omega
      obtain ⟨xw, hxw⟩ : ∃ x, (setT (U.take k)).getD P false = x := ⟨_, rfl⟩
      have u0 := fc_want HE2.out.blk HE2.out.lw hP8 hxw
      have u1 := HE2.out.blk.free (4 + P)
      have HSN := hid (show setT (U.take (k + 1)) = (setT (U.take k)).set P true by rw [HTK.out, setT_snoc, HP.out, Int.toNat_natCast])
      have hkl : (k : Int) < (U.length : Int) := by omega
      have hk8 : (k : Int) ≤ 8 := by have := HU8.out; omega
      have hP0 : 0 ≤ (P : Int) := by omega
      clear hxw
      go_wp2
      go_roundw
      case rel => exact ⟨k + 1, by omega, by go_num, fe_set HE2.out HSN.out, HI.out.notFe HE2.out.blk (fun _ h => by cases h) ((Frm.refl (· = fb) _).setCell ⟨fb, 4 + P, none⟩ (.bool true) (.inr rfl)), HF.out.setCell _ _ (.inr rfl)⟩
      case measure => simp [intOf]; omega
    · obtain rfl : k = U.length := by omega
      clear hlt hk
      go_wp2
      go_ret
      refine ⟨g, c, rfl, ?_, HF.out, HGN.out⟩
      have := HE2.out
      rw [List.take_length] at this
      rw [HU.out]
      exact this
theorem FPage_no {w : World} {fb : Nat} (P : Int) (hP : 8 ≤ P) (A : Option Addr) (n d : Nat) :
    Calls Try.prog 11 #[.pointer (some ⟨fb, 0, none⟩), .int .u8 P, .slice A n d] w fun e w' => e = .returned (.int .i64 61) ∧ w = w' := by
  have hP2 : ¬ P < 8 := by omega
  go_enter Try.func11, Try.ntmps11
  go_wp2
  go_ret
  exact ⟨rfl, rfl⟩
theorem FPage_none {w : World} {fb mb g c : Nat} {sq root : Int} {vs cs S : List Int} {wl : List Bool} (h : IsFe1 w fb mb g c sq root vs cs S wl) (p : Nat) (hp : p < 8) (hw : wl.getD p false = false) (A : Option Addr) (n d : Nat) :
    Calls Try.prog 11 #[.pointer (some ⟨fb, 0, none⟩), .int .u8 p, .slice A n d] w fun e w' => e = .returned (.int .i64 61) ∧ w = w' := by
  have q0 := fc_want h.blk h.lw hp hw
  have hp2 : (p : Int) < 8 := by omega
  have hp0 : 0 ≤ (p : Int) := by omega
  clear h hw
  go_enter Try.func11, Try.ntmps11
  go_wp2
  go_ret
  exact ⟨rfl, rfl⟩
theorem FPage_none0 {w : World} {fb mb : Nat} {sq root : Int} {vs cs : List Int} (h : IsFe0 w fb mb sq root vs cs) (p : Nat) (hp : p < 8) (A : Option Addr) (n d : Nat) :
    Calls Try.prog 11 #[.pointer (some ⟨fb, 0, none⟩), .int .u8 p, .slice A n d] w fun e w' => e = .returned (.int .i64 61) ∧ w = w' := by
  have q0 := fc_want h.blk rfl hp (show (List.replicate 8 false).getD p false = false by rw [List.getD_eq_getElem?_getD, List.getElem?_replicate]; split <;> rfl)
  have hp2 : (p : Int) < 8 := by omega
  have hp0 : 0 ≤ (p : Int) := by omega
  clear h
  go_enter Try.func11, Try.ntmps11
  go_wp2
  go_ret
  exact ⟨rfl, rfl⟩
theorem ints_cell {w : World} {g c : Nat} {S : List Int} (h : IsInts .u64 w (some ⟨g, 0, none⟩) c S) {p : Nat} (hp : p < S.length) : w.cell? ⟨g, p, none⟩ = some (.int .u64 (S.getD p 0)) := by
  obtain ⟨g', o', e, _, hc⟩ := h.at_ (by omega)
  cases e
  rw [← hc p hp, Nat.zero_add]
set_option maxHeartbeats 4000000 in
theorem FPage_bad {w : World} {fb mb g c : Nat} {sq root : Int} {vs cs S : List Int} {wl : List Bool} (h : IsFe1 w fb mb g c sq root vs cs S wl) (p : Nat) (hp : p < 8) (hw : wl.getD p false = true) {A : Option Addr} {n d : Nat} {x : List Int} (hx : IsInts .u8 w A d x) (hn : x.length = n) (hn5 : n ≤ 100000) (L : Int) (hL : leafS p x = L) (hne : L ≠ S.getD p 0) :
    Calls Try.prog 11 #[.pointer (some ⟨fb, 0, none⟩), .int .u8 p, .slice A n d] w fun e w' => e = .returned (.int .i64 180) ∧ Frm (fun _ => False) w w' := by
  have z0 := fc_want h.blk h.lw hp hw
  have HE := hid h
  have x0 := eqN; have x1 := neN; have x2 := eqS; have x3 := neS; have q0 := HE.out.blk.cell 0; have q1 := HE.out.blk.cell 1; have q2 := HE.out.blk.cell 2; have q3 := HE.out.blk.cell 3; (simp only [fcells, List.getElem?_cons_succ, List.getElem?_cons_zero] at q0 q1 q2 q3)
  obtain ⟨Sp, hSp⟩ : ∃ s, S.getD p 0 = s := ⟨_, rfl⟩
  have z1 := ints_cell h.sums (p := p) (by rw [h.len]; exact hp)
  rw [hSp] at z1 hne
  have z2 : (L == Sp) = false := beq_eq_false_iff_ne.2 hne
  have z4 : (L != Sp) = true := by rw [bne, z2]; rfl
  have HX := hid (hx.frm (frm_drew w) (fun _ _ h => h)); have HN := hid hn; have HL := hid hL; have HN5 := hid hn5
  have HF := hid (frm_drew w)
  have HGL := hid (World.block_lt_of_cell? _ _ z1)
  have e1 : IntKind.i64.wrap (p : Int) = (p : Int) := wrap_i64_small p (by omega)
  have hp2 : (p : Int) < 8 := by omega
  have hp0 : 0 ≤ (p : Int) := by omega
  clear h hw hx hn hL hne hSp hn5
  go_enter Try.func11, Try.ntmps11
  go_wp2
  go_region_held3 (fun wx => wx.cell? ⟨fb, 3, none⟩ = some (.slice (some ⟨g, 0, none⟩) 8 c) ∧ wx.cell? ⟨g, p, none⟩ = some (.int .u64 Sp)) (first | go_keep | exact ⟨r1, r2⟩) ((go_at_call 19; (with_reducible refine (Leaf_calls (p : Int) n HX.out HN.out HN5.out L HL.out).mono ?_); rintro e w' ⟨rfl, f'⟩; have r1 := ((frm_drew w).trans f').cell (p := ⟨fb, 3, none⟩) HE.out.blk.lt (fun h => h); have r2 := ((frm_drew w).trans f').cell (p := ⟨g, p, none⟩) HGL.out (fun h => h); (rw [q3] at r1); (rw [z1] at r2); have HF2 := hid (HF.out.trans f'); clear f' HF; have HF := HF2; clear HF2))
  go_wp2
  go_ret
  exact ⟨rfl, HF.out⟩
theorem fe_load {w w' : World} {fb mb g c : Nat} {sq root : Int} {vs zs cs S : List Int} {wl : List Bool} (h : IsFe1 w fb mb g c sq root vs cs S wl) (hm : IsMap w' mb zs cs) (f : Frm (· = mb) w w') : IsFe1 w' fb mb g c sq root zs cs S wl :=
  ⟨h.blk.frm f (fun e => h.ne e.symm), hm, h.ne, h.sums.frm f (fun p hp => by cases hp; exact h.gm), h.len, h.lw, h.gf, h.gm⟩
set_option maxHeartbeats 8000000 in
theorem FPage_good {w : World} {fb mb g c : Nat} {sq root : Int} {vs cs S : List Int} {wl : List Bool} (h : IsFe1 w fb mb g c sq root vs cs S wl) (p : Nat) (hp : p < 7) (hw : wl.getD p false = true) {A : Option Addr} {n d : Nat} {x : List Int} (hx : IsInts .u8 w A d x) (hn : x.length = n) (us : List Int) (hus : ∀ x ∈ us, 0 ≤ x ∧ x ≤ 65535) (hxe : x = pvals us p (pcount p)) (Sp : Int) (hSp : S.getD p 0 = Sp) (hL : leafS p x = Sp) (zs : List Int) (hz : loadV vs us p = zs) :
    Calls Try.prog 11 #[.pointer (some ⟨fb, 0, none⟩), .int .u8 p, .slice A n d] w fun e w' => e = .returned (.int .i64 0) ∧ IsFe1 w' fb mb g c sq root zs cs S (wl.set p false) ∧ Frm (fun k => k = fb ∨ k = mb) w w' := by
  have z0 := fc_want h.blk h.lw (show p < 8 by omega) hw
  have HE := hid h
  have x0 := eqN; have x1 := neN; have x2 := eqS; have x3 := neS; have q0 := HE.out.blk.cell 0; have q1 := HE.out.blk.cell 1; have q2 := HE.out.blk.cell 2; have q3 := HE.out.blk.cell 3; (simp only [fcells, List.getElem?_cons_succ, List.getElem?_cons_zero] at q0 q1 q2 q3)
  have z1 := ints_cell h.sums (p := p) (by rw [h.len]; omega)
  rw [hSp] at z1
  have HN5 := hid (show n ≤ 100000 by rw [← hn, hxe]; exact Nat.le_trans (pvals_len us p (pcount p)) (by unfold pcount; omega))
  have HX := hid (hx.frm (frm_drew w) (fun _ _ h => h)); have HN := hid hn; have HL := hid hL; have HUS := hid hus; have HXE := hid hxe; have HZ := hid hz
  have HF := hid (frm_drew w)
  have HGL := hid (World.block_lt_of_cell? _ _ z1)
  have HP7 := hid hp
  have e1 : IntKind.i64.wrap (p : Int) = (p : Int) := wrap_i64_small p (by omega)
  have hp2 : (p : Int) < 8 := by omega
  have hp0 : 0 ≤ (p : Int) := by omega
  clear h hw hx hn hL hSp hus hxe hz hp
  go_enter Try.func11, Try.ntmps11
  go_wp2
  go_region_held3 (fun wx => wx.cell? ⟨fb, 3, none⟩ = some (.slice (some ⟨g, 0, none⟩) 8 c) ∧ wx.cell? ⟨g, p, none⟩ = some (.int .u64 Sp)) (first | go_keep | exact ⟨r1, r2⟩) ((go_at_call 19; (with_reducible refine (Leaf_calls (p : Int) n HX.out HN.out HN5.out Sp HL.out).mono ?_); rintro e w' ⟨rfl, f'⟩; have r1 := ((frm_drew w).trans f').cell (p := ⟨fb, 3, none⟩) HE.out.blk.lt (fun h => h); have r2 := ((frm_drew w).trans f').cell (p := ⟨g, p, none⟩) HGL.out (fun h => h); (rw [q3] at r1); (rw [z1] at r2); have HE2 := hid (HE.out.quiet ((frm_drew w).trans f')); have HX2 := hid (HX.out.frm f' (fun _ _ h => h)); have HF2 := hid (HF.out.trans f'); clear f' HF; have HF := HF2; clear HF2))
  clear q0 q1 q2 q3 z0 z1 r1 r2
  have q2 := HE2.out.blk.cell 2
  simp only [fcells, List.getElem?_cons_succ, List.getElem?_cons_zero] at q2
  go_wp2_with ((go_at_call 33; (with_reducible refine (Load_val HE2.out.map HX2.out HN.out (p : Int) p rfl HP7.out us HUS.out HXE.out zs HZ.out).mono ?_); rintro e w' ⟨rfl, h', f'⟩; have HE3 := hid (fe_load HE2.out h' f'); have HF2 := hid ((HF.out.mono (S' := fun k => k = fb ∨ k = mb) (fun _ _ h => h.elim)).trans (f'.mono (fun _ _ h => .inr h))); have z5 := HE3.out.blk.free (4 + p); have z6 := fc_want HE3.out.blk HE3.out.lw (Nat.lt_trans HP7.out (by decide)) rfl; clear f' h' HF; have HF := HF2; clear HF2))
  go_ret
  exact ⟨rfl, fe_set HE3.out rfl, HF.out.setCell _ _ (.inr (.inl rfl))⟩
theorem Done_no {w : World} {fb mb g c : Nat} {sq root : Int} {vs cs S : List Int} {wl : List Bool} (h : IsFe1 w fb mb g c sq root vs cs S wl) (hw : (wants wl).length ≠ 0) :
    Calls Try.prog 17 #[.pointer (some ⟨fb, 0, none⟩)] w fun e w' => e = .returned (.tuple #[.pointer none, .bool false]) ∧ Frm (fun _ => False) w w' := by
  have HE := hid h; clear h
  obtain ⟨n, hn⟩ : ∃ n, (wants wl).length = n := ⟨_, rfl⟩
  have hn0 : (0 : Int) < (n : Int) := by omega
  have HN := hid hn; clear hn hw
  go_enter Try.func17, Try.ntmps17
  go_wp2_with (first
    | (go_at_call 16; (with_reducible refine (Wants1_calls HE.out).mono ?_); rintro e w' ⟨a, c', rfl, hi, f'⟩; (rw [HN.out]); have HF := hid f'; clear f' hi))
  go_ret2
  exact ⟨rfl, HF.out⟩
theorem Done_yes {w : World} {fb mb g c : Nat} {sq root : Int} {vs cs S : List Int} {wl : List Bool} (h : IsFe1 w fb mb g c sq root vs cs S wl) (hw : wants wl = []) :
    Calls Try.prog 17 #[.pointer (some ⟨fb, 0, none⟩)] w fun e w' => ∃ b, e = .returned (.tuple #[.pointer (some ⟨b, 0, none⟩), .bool true]) ∧ IsMap w' b vs cs ∧ Below w.heap.size w w' := by
  have HE := hid h; clear h
  have HN := hid (show (wants wl).length = 0 by rw [hw]; rfl); clear hw
  go_enter Try.func17, Try.ntmps17
  go_wp2_with (first
    | (go_at_call 16; (with_reducible refine (Wants1_calls HE.out).mono ?_); rintro e w' ⟨a, c', rfl, hi, f'⟩; (rw [HN.out]); have HE2 := hid (HE.out.quiet f'); have HF := hid (below_frm0 (Below.refl _ _) f'); have q2 := HE2.out.blk.cell 2; (simp only [fcells, List.getElem?_cons_succ, List.getElem?_cons_zero] at q2); clear f' hi)
    | (go_at_call 32; (with_reducible refine (PCopy_calls HE2.out.map).mono ?_); rintro e w' ⟨rfl, h', f'⟩; have HM := hid h'; have n0_ := hid (below_next HF.out f'); clear HF; have HF := n0_; clear n0_; clear f' h'))
  go_ret2
  exact ⟨_, rfl, HM.out, HF.out⟩
theorem FPage_noneP {w : World} {fb mb g c : Nat} {sq root : Int} {vs cs S : List Int} {wl : List Bool} (h : IsFe1 w fb mb g c sq root vs cs S wl) (P : Int) (p : Nat) (hP : P = p) (hp : p < 8) (hw : wl.getD p false = false) (A : Option Addr) (n d : Nat) :
    Calls Try.prog 11 #[.pointer (some ⟨fb, 0, none⟩), .int .u8 P, .slice A n d] w fun e w' => e = .returned (.int .i64 61) ∧ w = w' := by
  subst hP; exact FPage_none h p hp hw A n d
theorem FPage_none0P {w : World} {fb mb : Nat} {sq root : Int} {vs cs : List Int} (h : IsFe0 w fb mb sq root vs cs) (P : Int) (p : Nat) (hP : P = p) (hp : p < 8) (A : Option Addr) (n d : Nat) :
    Calls Try.prog 11 #[.pointer (some ⟨fb, 0, none⟩), .int .u8 P, .slice A n d] w fun e w' => e = .returned (.int .i64 61) ∧ w = w' := by
  subst hP; exact FPage_none0 h p hp A n d
theorem FPage_badP {w : World} {fb mb g c : Nat} {sq root : Int} {vs cs S : List Int} {wl : List Bool} (h : IsFe1 w fb mb g c sq root vs cs S wl) (P : Int) (p : Nat) (hP : P = p) (hp : p < 8) (hw : wl.getD p false = true) {A : Option Addr} {n d : Nat} {x : List Int} (hx : IsInts .u8 w A d x) (hn : x.length = n) (hn5 : n ≤ 100000) (L : Int) (hL : leafS p x = L) (hne : L ≠ S.getD p 0) :
    Calls Try.prog 11 #[.pointer (some ⟨fb, 0, none⟩), .int .u8 P, .slice A n d] w fun e w' => e = .returned (.int .i64 180) ∧ Frm (fun _ => False) w w' := by
  subst hP; exact FPage_bad h p hp hw hx hn hn5 L hL hne
theorem FPage_goodP {w : World} {fb mb g c : Nat} {sq root : Int} {vs cs S : List Int} {wl : List Bool} (h : IsFe1 w fb mb g c sq root vs cs S wl) (P : Int) (p : Nat) (hP : P = p) (hp : p < 7) (hw : wl.getD p false = true) {A : Option Addr} {n d : Nat} {x : List Int} (hx : IsInts .u8 w A d x) (hn : x.length = n) (us : List Int) (hus : ∀ x ∈ us, 0 ≤ x ∧ x ≤ 65535) (hxe : x = pvals us p (pcount p)) (Sp : Int) (hSp : S.getD p 0 = Sp) (hL : leafS p x = Sp) (zs : List Int) (hz : loadV vs us p = zs) :
    Calls Try.prog 11 #[.pointer (some ⟨fb, 0, none⟩), .int .u8 P, .slice A n d] w fun e w' => e = .returned (.int .i64 0) ∧ IsFe1 w' fb mb g c sq root zs cs S (wl.set p false) ∧ Frm (fun k => k = fb ∨ k = mb) w w' := by
  subst hP; exact FPage_good h p hp hw hx hn us hus hxe Sp hSp hL zs hz
end Go.Proofs.Ytfdmneefobfldaa
