/- Repair by pages: its object, its methods New, Sums, Page, Wants, Done. -/
import Derived.Test.YtfdmneefobfldaaPgLoad
import Derived.Test.YtfdmneefobfldaaMerk2
namespace Go.Proofs.Ytfdmneefobfldaa
open Go.RowKit Go.ChangeShapes
set_option linter.unusedVariables false
set_option linter.unusedSimpArgs false
set_option maxRecDepth 20000
abbrev TFe : Nat := 79
abbrev TMk : Nat := 34
def fcells (sq root : Int) (mb : Nat) (sv : Value) (wl : List Bool) : List Value := .int .u32 sq :: .int .u64 root :: .pointer (some ⟨mb, 0, none⟩) :: sv :: wl.map Value.bool
/-- What is wanted. -/
def wants (wl : List Bool) : List Int := ((List.range 8).filter fun k => wl.getD k false).map fun i : Nat => (i : Int)
/-- Nothing is known yet but the root. -/
structure IsFe0 (w : World) (fb mb : Nat) (sq root : Int) (vs cs : List Int) : Prop where
  blk : Blk w fb (fcells sq root mb (.slice none 0 0) (List.replicate 8 false)) TFe
  map : IsMap w mb vs cs
  ne : mb ≠ fb
/-- The sums are there. -/
structure IsFe1 (w : World) (fb mb g c : Nat) (sq root : Int) (vs cs S : List Int) (wl : List Bool) : Prop where
  blk : Blk w fb (fcells sq root mb (.slice (some ⟨g, 0, none⟩) 8 c) wl) TFe
  map : IsMap w mb vs cs
  ne : mb ≠ fb
  sums : IsInts .u64 w (some ⟨g, 0, none⟩) c S
  len : S.length = 8
  lw : wl.length = 8
  gf : g ≠ fb
  gm : g ≠ mb
theorem IsFe0.frm {w w' : World} {fb mb : Nat} {sq root : Int} {vs cs : List Int} {T : Nat → Prop} (h : IsFe0 w fb mb sq root vs cs) (f : Frm T w w') (h1 : ¬ T fb) (h2 : ¬ T mb) : IsFe0 w' fb mb sq root vs cs := ⟨h.blk.frm f h1, h.map.frm f h2, h.ne⟩
theorem IsFe0.quiet {w w' : World} {fb mb : Nat} {sq root : Int} {vs cs : List Int} (h : IsFe0 w fb mb sq root vs cs) (f : Frm (fun _ => False) w w') : IsFe0 w' fb mb sq root vs cs := h.frm f (fun h => h) (fun h => h)
theorem IsFe1.frm {w w' : World} {fb mb g c : Nat} {sq root : Int} {vs cs S : List Int} {wl : List Bool} {T : Nat → Prop} (h : IsFe1 w fb mb g c sq root vs cs S wl) (f : Frm T w w') (h1 : ¬ T fb) (h2 : ¬ T mb) (h3 : ¬ T g) : IsFe1 w' fb mb g c sq root vs cs S wl :=
  ⟨h.blk.frm f h1, h.map.frm f h2, h.ne, h.sums.frm f (fun p hp => by cases hp; exact h3), h.len, h.lw, h.gf, h.gm⟩
theorem IsFe1.quiet {w w' : World} {fb mb g c : Nat} {sq root : Int} {vs cs S : List Int} {wl : List Bool} (h : IsFe1 w fb mb g c sq root vs cs S wl) (f : Frm (fun _ => False) w w') : IsFe1 w' fb mb g c sq root vs cs S wl := h.frm f (fun h => h) (fun h => h) (fun h => h)
theorem fc_want {w : World} {fb mb : Nat} {sq root : Int} {sv : Value} {wl : List Bool} {T : Nat} (h : Blk w fb (fcells sq root mb sv wl) T) (hl : wl.length = 8) {p : Nat} (hp : p < 8) {x : Bool} (hx : wl.getD p false = x) : w.cell? ⟨fb, 4 + p, none⟩ = some (.bool x) := by
  rw [h.cell, Nat.add_comm 4 p, fcells]
  simp only [List.getElem?_cons_succ]
  rw [List.getElem?_map, List.getElem?_eq_getElem (by omega), ← hx, List.getD_eq_getElem?_getD, List.getElem?_eq_getElem (by omega)]; rfl
theorem fc_set {sq root : Int} {mb : Nat} {sv : Value} {wl : List Bool} (p : Nat) (x : Bool) : (fcells sq root mb sv wl).set (4 + p) (.bool x) = fcells sq root mb sv (wl.set p x) := by
  rw [Nat.add_comm 4 p, fcells, fcells]
  simp only [List.set_cons_succ, List.map_set]
theorem fc_sums {sq root : Int} {mb : Nat} {sv sv' : Value} {wl : List Bool} : (fcells sq root mb sv wl).set 3 sv' = fcells sq root mb sv' wl := by
  rw [fcells, fcells]; rfl
theorem blk_notints {w : World} {b g c : Nat} {x : List Int} {v : Value} {cs : List Value} {T : Nat} (h : Blk w b (v :: cs) T) (hi : IsInts .u64 w (some ⟨g, 0, none⟩) c x) (hx : x.length = 8) (hv : ∀ n : Int, v ≠ .int .u64 n) : g ≠ b := by
  rintro rfl
  have := hi.at_ (by omega)
  obtain ⟨g', o', e, _, hc⟩ := this
  cases e
  have h0 := hc 0 (by omega)
  rw [h.cell] at h0
  simp only [Nat.add_zero, List.getElem?_cons_zero, Option.some.injEq] at h0
  exact hv _ h0
theorem eqN (w : World) : (binOp .eql 39 (.slice none 0 0) (.slice none 0 0)).run Try.prog w = .ok (.bool true) w := by kernel_rfl
theorem neN (w : World) : (binOp .neq 39 (.slice none 0 0) (.slice none 0 0)).run Try.prog w = .ok (.bool false) w := by kernel_rfl
theorem eqS (a : Addr) (l c : Nat) (w : World) : (binOp .eql 39 (.slice (some a) l c) (.slice none 0 0)).run Try.prog w = .ok (.bool false) w := by kernel_rfl
theorem neS (a : Addr) (l c : Nat) (w : World) : (binOp .neq 39 (.slice (some a) l c) (.slice none 0 0)).run Try.prog w = .ok (.bool true) w := by kernel_rfl
set_option maxHeartbeats 4000000 in
theorem FNew_calls {w : World} {b : Nat} {vs cs : List Int} (h : IsMap w b vs cs) (sq root : Int) :
    Calls Try.prog 9 #[.agg #[.int .u32 sq, .int .u64 root], .pointer (some ⟨b, 0, none⟩)] w fun e w' =>
      ∃ fb mb, e = .returned (.pointer (some ⟨fb, 0, none⟩)) ∧ w.heap.size ≤ fb ∧ w.heap.size ≤ mb ∧ IsFe0 w' fb mb sq root vs cs ∧ Below w.heap.size w w' := by
  have HM := hid (h.frm (frm_box w (.cells #[.int .u32 sq, .int .u64 root] TMk)) (fun h => h)); clear h
  have HM2 := hid (HM.out.frm (frm_drew _) (fun h => h)); clear HM
  have HQ := hid (show Blk (w.alloc (.cells #[.int .u32 sq, .int .u64 root] TMk)) w.heap.size [.int .u32 sq, .int .u64 root] TMk from Blk.new w [.int .u32 sq, .int .u64 root] TMk)
  have q0 := HQ.out.cell 0; have q1 := HQ.out.cell 1
  simp only [List.getElem?_cons_succ, List.getElem?_cons_zero] at q0 q1
  go_enter Try.func9, Try.ntmps9
  go_wp2
  go_region_held3 (fun wx => wx.cell? ⟨w.heap.size, 0, none⟩ = some (.int .u32 sq) ∧ wx.cell? ⟨w.heap.size, 1, none⟩ = some (.int .u64 root)) (first | go_keep | exact ⟨r0, r1⟩) ((go_at_call 32; (with_reducible refine (PCopy_calls HM2.out).mono ?_); rintro e w' ⟨rfl, h', f'⟩; have HSZ := hid (show (w.alloc (.cells #[.int .u32 sq, .int .u64 root] TMk)).drew.heap.size = w.heap.size + 1 from World.size_alloc _ _); (rw [HSZ.out] at h'); have HM := hid h'; have HF := hid f'; have HF0 := hid (fun (f9 : Below (w.alloc (.cells #[.int .u32 sq, .int .u64 root] TMk)).drew.heap.size (w.alloc (.cells #[.int .u32 sq, .int .u64 root] TMk)).drew w') => below_next ((Below.refl _ w).alloc (Nat.le_refl _) _) (show Below (w.alloc (.cells #[.int .u32 sq, .int .u64 root] TMk)).heap.size (w.alloc (.cells #[.int .u32 sq, .int .u64 root] TMk)) w' from ⟨f9.os, f9.tape, f9.output, f9.size, f9.block⟩)); have HQ2 := hid (HQ.out.frm ((frm_drew _).trans (frm0_of f')) (fun h => h)); clear f' h'; have r0 := HQ2.out.cell 0; have r1 := HQ2.out.cell 1; (simp only [List.getElem?_cons_succ, List.getElem?_cons_zero] at r0 r1)))
  go_wp2
  go_ret
  refine ⟨_, _, rfl, ?_, ?_, ⟨Blk.new _ (fcells sq root _ (.slice none 0 0) (List.replicate 8 false)) TFe, HM.out.frm (frm_box _ _) (fun h => h), Nat.ne_of_lt HM.out.blk.lt⟩, ?_⟩
  · exact Nat.le_trans (by simp) HF.out.size
  · simp
  · exact (HF0.out HF.out).alloc (HF0.out HF.out).size _
theorem wants_succ (wl : List Bool) (n : Nat) : ((List.range (n + 1)).filter fun k => wl.getD k false).map (fun i : Nat => (i : Int)) = ((List.range n).filter fun k => wl.getD k false).map (fun i : Nat => (i : Int)) ++ (if wl.getD n false = true then [(n : Int)] else []) := by
  rw [List.range_succ, List.filter_append, List.map_append]
  congr 1
  by_cases h : wl.getD n false = true
  · rw [if_pos h, List.filter_cons, if_pos h]; rfl
  · rw [if_neg h, List.filter_cons, if_neg h]; rfl
def wantsN (wl : List Bool) (n : Nat) : List Int := ((List.range n).filter fun k => wl.getD k false).map fun i : Nat => (i : Int)
theorem wantsN_succ (wl : List Bool) (n : Nat) : wantsN wl (n + 1) = wantsN wl n ++ (if wl.getD n false = true then [(n : Int)] else []) := wants_succ wl n
theorem wantsN_len (wl : List Bool) (n : Nat) : (wantsN wl n).length ≤ n := by
  unfold wantsN; rw [List.length_map]; have := List.length_filter_le (fun k => wl.getD k false) (List.range n); rw [List.length_range] at this; exact this
set_option maxHeartbeats 4000000 in
theorem Wants0_calls {w : World} {fb mb : Nat} {sq root : Int} {vs cs : List Int} (h : IsFe0 w fb mb sq root vs cs) :
    Calls Try.prog 16 #[.pointer (some ⟨fb, 0, none⟩)] w fun e w' => e = .returned (.slice (some ⟨w.heap.size, 0, none⟩) 1 1) ∧ IsInts .i64 w' (some ⟨w.heap.size, 0, none⟩) 1 [8] ∧ Frm (fun _ => False) w w' := by
  have HE := hid h; clear h
  have x0 := eqN; have x1 := neN; have x2 := eqS; have x3 := neS; have q0 := HE.out.blk.cell 0; have q1 := HE.out.blk.cell 1; have q2 := HE.out.blk.cell 2; have q3 := HE.out.blk.cell 3; (simp only [fcells, List.getElem?_cons_succ, List.getElem?_cons_zero] at q0 q1 q2 q3)
  go_enter Try.func16, Try.ntmps16
  go_wp2
  go_ret
  exact ⟨rfl, one_intsI w 8 _ (by decide), frm_box _ _⟩
theorem wl_range {w : World} {fb mb : Nat} {sq root : Int} {sv : Value} {wl : List Bool} {T : Nat} (h : Blk w fb (fcells sq root mb sv wl) T) : w.rangeAt fb 4 (wl.map Value.bool) := fun j v hv => by
  rw [h.cell, Nat.add_comm 4 j, fcells]
  simp only [List.getElem?_cons_succ]
  exact hv
theorem wl_i0 (b0 b1 b2 b3 b4 b5 b6 b7 : Bool) (w : World) : (Instr.index 60 (.agg #[.bool b0, .bool b1, .bool b2, .bool b3, .bool b4, .bool b5, .bool b6, .bool b7]) (.int .i64 0)).run Try.prog w = .ok (.bool b0) w := by kernel_rfl
theorem wl_i1 (b0 b1 b2 b3 b4 b5 b6 b7 : Bool) (w : World) : (Instr.index 60 (.agg #[.bool b0, .bool b1, .bool b2, .bool b3, .bool b4, .bool b5, .bool b6, .bool b7]) (.int .i64 1)).run Try.prog w = .ok (.bool b1) w := by kernel_rfl
theorem wl_i2 (b0 b1 b2 b3 b4 b5 b6 b7 : Bool) (w : World) : (Instr.index 60 (.agg #[.bool b0, .bool b1, .bool b2, .bool b3, .bool b4, .bool b5, .bool b6, .bool b7]) (.int .i64 2)).run Try.prog w = .ok (.bool b2) w := by kernel_rfl
theorem wl_i3 (b0 b1 b2 b3 b4 b5 b6 b7 : Bool) (w : World) : (Instr.index 60 (.agg #[.bool b0, .bool b1, .bool b2, .bool b3, .bool b4, .bool b5, .bool b6, .bool b7]) (.int .i64 3)).run Try.prog w = .ok (.bool b3) w := by kernel_rfl
theorem wl_i4 (b0 b1 b2 b3 b4 b5 b6 b7 : Bool) (w : World) : (Instr.index 60 (.agg #[.bool b0, .bool b1, .bool b2, .bool b3, .bool b4, .bool b5, .bool b6, .bool b7]) (.int .i64 4)).run Try.prog w = .ok (.bool b4) w := by kernel_rfl
theorem wl_i5 (b0 b1 b2 b3 b4 b5 b6 b7 : Bool) (w : World) : (Instr.index 60 (.agg #[.bool b0, .bool b1, .bool b2, .bool b3, .bool b4, .bool b5, .bool b6, .bool b7]) (.int .i64 5)).run Try.prog w = .ok (.bool b5) w := by kernel_rfl
theorem wl_i6 (b0 b1 b2 b3 b4 b5 b6 b7 : Bool) (w : World) : (Instr.index 60 (.agg #[.bool b0, .bool b1, .bool b2, .bool b3, .bool b4, .bool b5, .bool b6, .bool b7]) (.int .i64 6)).run Try.prog w = .ok (.bool b6) w := by kernel_rfl
theorem wl_i7 (b0 b1 b2 b3 b4 b5 b6 b7 : Bool) (w : World) : (Instr.index 60 (.agg #[.bool b0, .bool b1, .bool b2, .bool b3, .bool b4, .bool b5, .bool b6, .bool b7]) (.int .i64 7)).run Try.prog w = .ok (.bool b7) w := by kernel_rfl
theorem wl_index {wl : List Bool} (hl : wl.length = 8) {k : Nat} (hk : k < 8) {x : Bool} (hx : wl.getD k false = x) (w : World) : (Instr.index 60 (.agg (wl.map Value.bool).toArray) (.int .i64 k)).run Try.prog w = .ok (.bool x) w := by
  subst hx
  match wl, hl with
  | [b0, b1, b2, b3, b4, b5, b6, b7], _ =>
    rcases (show k = 0 ∨ k = 1 ∨ k = 2 ∨ k = 3 ∨ k = 4 ∨ k = 5 ∨ k = 6 ∨ k = 7 by omega) with rfl | rfl | rfl | rfl | rfl | rfl | rfl | rfl
    · exact wl_i0 b0 b1 b2 b3 b4 b5 b6 b7 w
    · exact wl_i1 b0 b1 b2 b3 b4 b5 b6 b7 w
    · exact wl_i2 b0 b1 b2 b3 b4 b5 b6 b7 w
    · exact wl_i3 b0 b1 b2 b3 b4 b5 b6 b7 w
    · exact wl_i4 b0 b1 b2 b3 b4 b5 b6 b7 w
    · exact wl_i5 b0 b1 b2 b3 b4 b5 b6 b7 w
    · exact wl_i6 b0 b1 b2 b3 b4 b5 b6 b7 w
    · exact wl_i7 b0 b1 b2 b3 b4 b5 b6 b7 w
theorem size_wl {wl : List Bool} (h : wl.length = 8) : (Try.prog.info? 60).map (·.size) = some (wl.map Value.bool).length := by
  rw [List.length_map, h]; kernel_rfl
set_option maxHeartbeats 8000000 in
theorem Wants1_calls {w : World} {fb mb g c : Nat} {sq root : Int} {vs cs S : List Int} {wl : List Bool} (h : IsFe1 w fb mb g c sq root vs cs S wl) :
    Calls Try.prog 16 #[.pointer (some ⟨fb, 0, none⟩)] w fun e w' => ∃ a c', e = .returned (.slice a (wants wl).length c') ∧ IsInts .i64 w' a c' (wants wl) ∧ Frm (fun _ => False) w w' := by
  have HE := hid h; clear h
  have x0 := eqN; have x1 := neN; have x2 := eqS; have x3 := neS; have q0 := HE.out.blk.cell 0; have q1 := HE.out.blk.cell 1; have q2 := HE.out.blk.cell 2; have q3 := HE.out.blk.cell 3; (simp only [fcells, List.getElem?_cons_succ, List.getElem?_cons_zero] at q0 q1 q2 q3)
  have HS := hid (size_wl HE.out.lw)
  have HX := hid (wl_range HE.out.blk)
  have HI := hid (fun (k : Nat) (hk : k < 8) (x : Bool) (hx : wl.getD k false = x) (w : World) => wl_index HE.out.lw hk hx w)
  obtain ⟨Z, hZ⟩ : ∃ Z, (wl.map Value.bool).toArray = Z := ⟨_, rfl⟩
  have HZ := hid hZ
  go_enter Try.func16, Try.ntmps16
  go_wp2_with ((with_reducible show wpList _ _ _ _ _ _); refine wpList_load_mid rfl 60 (.tmp 14) rfl fb 4 rfl (wl.map Value.bool) (.array 8 4) HX.out Try.underlying60 rfl HS.out ?_; rw [HZ.out])
  clear hZ
  go_loopw [3, 16] (fun o i wr => ∃ (k : Nat) (v : Value), k ≤ 8 ∧ o = v ∧ i = .int .i64 k ∧ OwnBI wr (fun q => q < w.heap.size) v (wantsN wl k) ∧ Below w.heap.size w wr) (fun _ i _ => 8 - (intOf i).toNat)
  case atStart => exact ⟨0, _, by omega, rfl, rfl, OwnBI.nil _ _, Below.refl _ _⟩
  case round =>
    obtain ⟨k, v, hk, rfl, rfl, ho, hf⟩ := hrel
    have HO := hid ho; have HF := hid hf; clear ho hf
    obtain ⟨a, c', rfl, hi, hb⟩ := HO.out.ints
    have HB := hid hb; clear hb hi
    by_cases hlt : k < 8
    · have hki : (k : Int) < 8 := by omega
      have HW := hid (wantsN_succ wl k); have HWL := hid (wantsN_len wl k)
      rcases hb : wl.getD k false with _ | _
      · have hix := fun w => HI.out k hlt false hb w
        rw [HZ.out] at hix
        have HNX := hid (show wantsN wl (k + 1) = wantsN wl k by rw [HW.out, hb]; simp)
        have HLT := hid hlt; clear hlt hb hk
        go_wp2
        go_roundw
        case rel => exact ⟨k + 1, _, by have := HLT.out; omega, rfl, by go_num, by rw [HNX.out]; exact HO.out, HF.out⟩
        case measure => simp [intOf]; have := HLT.out; omega
      · have hix := fun w => HI.out k hlt true hb w
        rw [HZ.out] at hix
        have HNX := hid (show wantsN wl (k + 1) = wantsN wl k ++ [(k : Int)] by rw [HW.out, hb, if_pos rfl])
        have HLT := hid hlt; clear hlt hb hk
        go_wp2_with (at_builtin; refine wpList_moreI rfl _ _ rfl rfl (HO.out.frm0 (frm_box _ _)) (fun k hk => by have := HF.out.size; simp; omega) (one_intsI2 wr k (by have := HLT.out; omega)) (show ([(k : Int)] : List Int).length = 1 from rfl) (by have := HWL.out; have := HLT.out; omega) rfl rfl ?_; intro a' l' c' wq ho' hf' hat'; have HF2 := hid ((HF.out.alloc HF.out.size _).trans (hf'.below (by have := HF.out.size; simp; omega) (fun k hk hn => HO.out.off k hn hk))); clear HF HO hf' hat'; have HF := HF2; have HO := hid ho'; clear ho' HF2)
        go_roundw
        case rel => exact ⟨k + 1, _, by have := HLT.out; omega, rfl, by go_num, by rw [HNX.out]; exact HO.out, HF.out⟩
        case measure => simp [intOf]; have := HLT.out; omega
    · obtain rfl : k = 8 := by omega
      clear hk hlt
      go_wp2
      go_ret
      obtain ⟨a, c', he, hi, hb⟩ := HO.out.ints
      cases he
      exact ⟨_, _, rfl, hi, frm0_of HF.out⟩
set_option maxHeartbeats 4000000 in
theorem Clone_calls {w : World} {A : Option Addr} {c n : Nat} {l : List Int} (h : IsInts .u64 w A c l) (hn : l.length = n) (h8 : n = 8) :
    Calls Try.prog 39 #[.slice A n c] w fun e w' => ∃ g c', e = .returned (.slice (some ⟨g, 0, none⟩) 8 c') ∧ w.heap.size ≤ g ∧ IsInts .u64 w' (some ⟨g, 0, none⟩) c' l ∧ Below w.heap.size w w' := by
  subst h8
  obtain ⟨g0, o0, rfl, hg0, _⟩ := h.at_ (by omega)
  have HI := hid (h.frm (frm_box w (.cells #[] 31)) (fun _ _ h => h)); have HN := hid hn; clear h hn
  have HO := hid (show OwnBU (w.alloc (.cells #[] 31)) (fun k => k < w.heap.size) (.slice (some ⟨w.heap.size, 0, none⟩) 0 0) [] from
    ⟨⟨rfl, .inr ⟨w.heap.size, 0, #[], rfl, Nat.zero_le _, by show (w.heap.push _)[w.heap.size]? = _; simp, Nat.le_refl _, by decide, rfl, rfl⟩⟩, fun k hk => by simp only [Value.ownBlock, Option.some.injEq] at hk; omega, fun _ h => by cases h⟩)
  have x2 := eqS
  go_enter Try.func39, Try.ntmps39
  go_wp2_with (at_builtin; refine wpList_moreU rfl _ _ rfl rfl HO.out (fun k hk => by simp; omega) HI.out HN.out (by simp) rfl rfl ?_; intro a' l' c' wq ho' hf' hat'; have HO2 := hid ho'; have HF2 := hid (((Below.refl _ w).alloc (Nat.le_refl _) _).trans (hf'.below (by simp) (fun k hk hn => HO.out.off k hn hk))); clear ho' hf' hat')
  go_ret
  obtain ⟨a, c2, he, hi, hb⟩ := HO2.out.ints
  have hal : a ≠ none := by
    rintro rfl
    obtain ⟨_, _, e, _⟩ := hi.at_ (by rw [List.nil_append, HN.out]; decide)
    cases e
  obtain ⟨⟨ab, ao, asp⟩, rfl⟩ := Option.ne_none_iff_exists'.1 hal
  obtain ⟨g', o', e', hlt, hcell⟩ := hi.at_ (by rw [List.nil_append, HN.out]; decide)
  cases e'
  have hbk := hb _ rfl
  have hao : ao = 0 := by
    rcases HO2.out.own.2 with ⟨hnil, _⟩ | ⟨g9, cap9, cur9, hv9, _⟩
    · rw [he] at hnil; cases hnil
    · rw [he] at hv9; cases hv9; rfl
  subst hao
  cases he
  rw [List.nil_append] at hi
  refine ⟨ab, _, ?_, ?_, hi, HF2.out⟩
  · rw [List.nil_append, HN.out]; rfl
  · exact Nat.le_of_not_lt (HO2.out.off ab hbk)
def setT (ps : List Int) : List Bool := ps.foldl (fun wl p => wl.set p.toNat true) (List.replicate 8 false)
theorem setT_snoc (ps : List Int) (p : Int) : setT (ps ++ [p]) = (setT ps).set p.toNat true := by unfold setT; rw [List.foldl_append]; rfl
theorem setT_len (ps : List Int) : (setT ps).length = 8 := by
  unfold setT
  suffices h : ∀ (ps : List Int) (wl : List Bool), (ps.foldl (fun wl p => wl.set p.toNat true) wl).length = wl.length by rw [h]; rfl
  intro ps
  induction ps with
  | nil => intro wl; rfl
  | cons p ps ih => intro wl; rw [List.foldl_cons, ih, List.length_set]
theorem bool_set_getD (wl : List Bool) (p k : Nat) (x : Bool) (hp : p < wl.length) : (wl.set p x).getD k false = if k = p then x else wl.getD k false := by
  rw [List.getD_eq_getElem?_getD, List.getElem?_set]
  by_cases h : p = k
  · subst h; rw [if_pos rfl, if_pos hp, if_pos rfl]; rfl
  · rw [if_neg h, if_neg (Ne.symm h), List.getD_eq_getElem?_getD]
theorem setT_unl (x y : List Int) (n : Nat) (hn : n ≤ 8) (k : Nat) : (setT (unl x y n)).getD k false = decide (k < n ∧ (x.length ≠ 8 ∨ y.length ≠ 8 ∨ x.getD k 0 ≠ y.getD k 0)) := by
  induction n with
  | zero =>
    rw [decide_eq_false (by omega)]
    show (List.replicate 8 false).getD k false = false
    rw [List.getD_eq_getElem?_getD, List.getElem?_replicate]
    split <;> rfl
  | succ n ih =>
    have ih := ih (by omega)
    rw [unl_succ]
    by_cases h : x.length ≠ 8 ∨ y.length ≠ 8 ∨ x.getD n 0 ≠ y.getD n 0
    · rw [if_pos h, setT_snoc, Int.toNat_natCast, bool_set_getD _ _ _ _ (by rw [setT_len]; omega)]
      by_cases hk : k = n
      · subst hk; rw [if_pos rfl, decide_eq_true ⟨by omega, h⟩]
      · rw [if_neg hk, ih]
        by_cases h2 : k < n ∧ (x.length ≠ 8 ∨ y.length ≠ 8 ∨ x.getD k 0 ≠ y.getD k 0)
        · rw [decide_eq_true h2, decide_eq_true ⟨by omega, h2.2⟩]
        · rw [decide_eq_false h2, decide_eq_false (fun h3 => h2 ⟨by omega, h3.2⟩)]
    · rw [if_neg h, List.append_nil, ih]
      by_cases h2 : k < n ∧ (x.length ≠ 8 ∨ y.length ≠ 8 ∨ x.getD k 0 ≠ y.getD k 0)
      · rw [decide_eq_true h2, decide_eq_true ⟨by omega, h2.2⟩]
      · rw [decide_eq_false h2, decide_eq_false (fun h3 => h2 ⟨by rcases (show k = n ∨ k < n by omega) with e | e; exact absurd (e ▸ h3.2) h; exact e, h3.2⟩)]
theorem wants_setT (x y : List Int) : wants (setT (unl x y 8)) = unl x y 8 := by
  unfold wants
  rw [show unl x y 8 = ((List.range 8).filter fun i => x.length ≠ 8 ∨ y.length ≠ 8 ∨ x.getD i 0 ≠ y.getD i 0).map fun i : Nat => (i : Int) from rfl]
  congr 1
  apply List.filter_congr
  intro k hk
  have := setT_unl x y 8 (Nat.le_refl _) k
  rw [show (((List.range 8).filter fun i => x.length ≠ 8 ∨ y.length ≠ 8 ∨ x.getD i 0 ≠ y.getD i 0).map fun i : Nat => (i : Int)) = unl x y 8 from rfl, this]
  rw [List.mem_range] at hk
  by_cases h : x.length ≠ 8 ∨ y.length ≠ 8 ∨ x.getD k 0 ≠ y.getD k 0
  · rw [decide_eq_true h, decide_eq_true ⟨hk, h⟩]
  · rw [decide_eq_false h, decide_eq_false (fun h2 => h h2.2)]
theorem unl_mem {x y : List Int} {n : Nat} {p : Int} (h : p ∈ unl x y n) : 0 ≤ p ∧ p < n := by
  unfold unl at h
  obtain ⟨k, hk, rfl⟩ := List.mem_map.1 h
  have := List.mem_range.1 (List.mem_filter.1 hk).1
  omega
/-- Numbers of pages lie in no block of a Fetch. -/
theorem IsInts.notFe {w w' : World} {fb mb : Nat} {sq root : Int} {sv : Value} {wl : List Bool} {a : Option Addr} {c : Nat} {x : List Int} (h : IsInts .i64 w a c x) (hb : Blk w fb (fcells sq root mb sv wl) TFe) (hs : ∀ n : Int, sv ≠ .int .i64 n) (f : Frm (· = fb) w w') : IsInts .i64 w' a c x := by
  refine ⟨h.le, h.small, fun hn => ?_, h.wf⟩
  obtain ⟨g, off, rfl, hlt, hc⟩ := h.at_ hn
  have hne : g ≠ fb := by
    rintro rfl
    have h0 := hc 0 (by omega)
    rw [hb.cell] at h0
    have hm := List.mem_of_getElem? h0
    simp only [fcells, List.mem_cons, List.mem_map] at hm
    rcases hm with e | e | e | e | ⟨_, _, e⟩
    · cases e
    · cases e
    · cases e
    · exact hs _ e.symm
    · cases e
  exact ⟨g, off, rfl, Nat.lt_of_lt_of_le hlt f.size, fun i hi => (f.cell (p := ⟨g, off + i, none⟩) hlt hne).trans (hc i hi)⟩
theorem FSums_none {w : World} {fb mb g c : Nat} {sq root : Int} {vs cs S : List Int} {wl : List Bool} (h : IsFe1 w fb mb g c sq root vs cs S wl) (A : Option Addr) (n d : Nat) :
    Calls Try.prog 13 #[.pointer (some ⟨fb, 0, none⟩), .slice A n d] w fun e w' => e = .returned (.int .i64 61) ∧ w = w' := by
  have HE := hid h; clear h
  have x0 := eqN; have x1 := neN; have x2 := eqS; have x3 := neS; have q0 := HE.out.blk.cell 0; have q1 := HE.out.blk.cell 1; have q2 := HE.out.blk.cell 2; have q3 := HE.out.blk.cell 3; (simp only [fcells, List.getElem?_cons_succ, List.getElem?_cons_zero] at q0 q1 q2 q3)
  go_enter Try.func13, Try.ntmps13
  go_wp2
  go_ret
  exact ⟨rfl, rfl⟩
set_option maxHeartbeats 4000000 in
theorem FSums_bad {w : World} {fb mb : Nat} {sq root : Int} {vs cs : List Int} (h : IsFe0 w fb mb sq root vs cs) {A : Option Addr} {n d : Nat} {l : List Int} (hl : IsInts .u64 w A d l) (hn : l.length = n) (R : Int) (hR : rootS l = R) (hb : n ≠ 8 ∨ R ≠ root) :
    Calls Try.prog 13 #[.pointer (some ⟨fb, 0, none⟩), .slice A n d] w fun e w' => e = .returned (.int .i64 180) ∧ Frm (fun _ => False) w w' := by
  have HE := hid h; have HL := hid (hl.frm (frm_drew w) (fun _ _ h => h)); have HN := hid hn; have HR := hid hR; clear h hl hn hR
  have x0 := eqN; have x1 := neN; have x2 := eqS; have x3 := neS; have q0 := HE.out.blk.cell 0; have q1 := HE.out.blk.cell 1; have q2 := HE.out.blk.cell 2; have q3 := HE.out.blk.cell 3; (simp only [fcells, List.getElem?_cons_succ, List.getElem?_cons_zero] at q0 q1 q2 q3)
  by_cases h8 : n = 8
  · subst h8
    have hne : R ≠ root := hb.resolve_left (fun h => h rfl)
    have z0 : (R == root) = false := beq_eq_false_iff_ne.2 hne
    have z1 : (R != root) = true := by rw [bne, z0]; rfl
    have HF := hid (frm_drew w)
    clear hb hne
    go_enter Try.func13, Try.ntmps13
    go_wp2
    go_region_held3 (fun wx => wx.cell? ⟨fb, 1, none⟩ = some (.int .u64 root)) (first | go_keep | exact r1) ((go_at_call 18; (with_reducible refine (Root_calls 8 HL.out HN.out R HR.out).mono ?_); rintro e w' ⟨rfl, f'⟩; have r1 := ((frm_drew w).trans f').cell (p := ⟨fb, 1, none⟩) HE.out.blk.lt (fun h => h); (rw [q1] at r1); have HF2 := hid (HF.out.trans f'); clear f' HF; have HF := HF2; clear HF2))
    go_wp2
    go_ret
    exact ⟨rfl, HF.out⟩
  · have z0 : ((n : Int) == 8) = false := beq_eq_false_iff_ne.2 (by omega)
    have z1 : ((n : Int) != 8) = true := by rw [bne, z0]; rfl
    clear hb h8
    go_enter Try.func13, Try.ntmps13
    go_wp2
    refine wp_region_held_drew (S := fun wx => True) (by kernel_rfl) (by trivial) (fun hHeld => ?_)
    refine wpAnyH_take (i := 0) (oi := ⟨some 14, _, _, _, _, _⟩) (v := ?v1) rfl (by kernel_rfl) (by kernel_rfl) (by kernel_rfl) (fun _ _ _ h => h) (Or.inl ⟨by rfl, ?y1⟩) (by assumption) ?r1
    case y1 => (intro wx hSx; (try dsimp only at hSx); go_simp; (try with_reducible rfl))
    try simp only [Act.put, List.setIfInBounds_toArray, List.set_cons_zero, List.set_cons_succ]
    refine wpAnyH_take (i := 1) (oi := ⟨some 15, _, _, _, _, _⟩) (v := ?v2) rfl (by kernel_rfl) (by kernel_rfl) (by kernel_rfl) (fun _ _ _ h => h) (Or.inl ⟨by rfl, ?y2⟩) (by assumption) ?r2
    case y2 => (intro wx hSx; (try dsimp only at hSx); go_simp; (try with_reducible rfl))
    try simp only [Act.put, List.setIfInBounds_toArray, List.set_cons_zero, List.set_cons_succ]
    refine wpAnyH_take (i := 2) (oi := ⟨some 16, _, _, _, _, _⟩) (v := ?v3) rfl (by kernel_rfl) (by kernel_rfl) (by kernel_rfl) (fun _ _ _ h => h) (Or.inl ⟨by rfl, ?y3⟩) (by assumption) ?r3
    case y3 => (intro wx hSx; (try dsimp only at hSx); go_simp; (try with_reducible rfl))
    try simp only [Act.put, List.setIfInBounds_toArray, List.set_cons_zero, List.set_cons_succ]
    refine wpAnyH_take (i := 3) (oi := ⟨some 17, _, _, _, _, _⟩) (v := ?v4) rfl (by kernel_rfl) (by kernel_rfl) (by kernel_rfl) (fun _ _ _ h => h) (Or.inl ⟨by rfl, ?y4⟩) (by assumption) ?r4
    case y4 => (intro wx hSx; (try dsimp only at hSx); go_simp; (try with_reducible rfl))
    try simp only [Act.put, List.setIfInBounds_toArray, List.set_cons_zero, List.set_cons_succ]
    refine wpAnyH_take (i := 4) (oi := ⟨some 18, _, _, _, _, _⟩) (v := undef) rfl (by kernel_rfl) (by kernel_rfl) (by kernel_rfl) (fun _ _ _ h => h) (Or.inr ⟨by rfl, rfl⟩) (by assumption) ?_
    try simp only [Act.put, List.setIfInBounds_toArray, List.set_cons_zero, List.set_cons_succ]
    refine wpAnyH_take (i := 5) (oi := ⟨some 19, _, _, _, _, _⟩) (v := undef) rfl (by kernel_rfl) (by kernel_rfl) (by kernel_rfl) (fun _ _ _ h => h) (Or.inr ⟨by rfl, rfl⟩) (by assumption) ?_
    try simp only [Act.put, List.setIfInBounds_toArray, List.set_cons_zero, List.set_cons_succ]
    refine wpAnyH_take (i := 6) (oi := ⟨some 20, _, _, _, _, _⟩) (v := undef) rfl (by kernel_rfl) (by kernel_rfl) (by kernel_rfl) (fun _ _ _ h => h) (Or.inr ⟨by rfl, rfl⟩) (by assumption) ?_
    try simp only [Act.put, List.setIfInBounds_toArray, List.set_cons_zero, List.set_cons_succ]
    refine wpAnyH_take (i := 7) (oi := ⟨some 21, _, _, _, _, _⟩) (v := undef) rfl (by kernel_rfl) (by kernel_rfl) (by kernel_rfl) (fun _ _ _ h => h) (Or.inr ⟨by rfl, rfl⟩) (by assumption) ?_
    try simp only [Act.put, List.setIfInBounds_toArray, List.set_cons_zero, List.set_cons_succ]
    refine wpAnyH_take (i := 8) (oi := ⟨some 22, _, _, _, _, _⟩) (v := undef) rfl (by kernel_rfl) (by kernel_rfl) (by kernel_rfl) (fun _ _ _ h => h) (Or.inr ⟨by rfl, rfl⟩) (by assumption) ?_
    try simp only [Act.put, List.setIfInBounds_toArray, List.set_cons_zero, List.set_cons_succ]
    refine wpAnyH_take (i := 9) (oi := ⟨some 23, _, _, _, _, _⟩) (v := undef) rfl (by kernel_rfl) (by kernel_rfl) (by kernel_rfl) (fun _ _ _ h => h) (Or.inr ⟨by rfl, rfl⟩) (by assumption) ?_
    try simp only [Act.put, List.setIfInBounds_toArray, List.set_cons_zero, List.set_cons_succ]
    refine wpAnyH_take (i := 10) (oi := ⟨some 24, _, _, _, _, _⟩) (v := undef) rfl (by kernel_rfl) (by kernel_rfl) (by kernel_rfl) (fun _ _ _ h => h) (Or.inr ⟨by rfl, rfl⟩) (by assumption) ?_
    try simp only [Act.put, List.setIfInBounds_toArray, List.set_cons_zero, List.set_cons_succ]
    refine wpAnyH_take (i := 11) (oi := ⟨some 25, _, _, _, _, _⟩) (v := undef) rfl (by kernel_rfl) (by kernel_rfl) (by kernel_rfl) (fun _ _ _ h => h) (Or.inr ⟨by rfl, rfl⟩) (by assumption) ?_
    try simp only [Act.put, List.setIfInBounds_toArray, List.set_cons_zero, List.set_cons_succ]
    refine wpAnyH_take (i := 12) (oi := ⟨some 26, _, _, _, _, _⟩) (v := ?v5) rfl (by kernel_rfl) (by kernel_rfl) (by kernel_rfl) (fun _ _ _ h => h) (Or.inl ⟨by rfl, ?y5⟩) (by assumption) ?r5
    case y5 => (intro wx hSx; (try dsimp only at hSx); go_simp; (try with_reducible rfl))
    try simp only [Act.put, List.setIfInBounds_toArray, List.set_cons_zero, List.set_cons_succ]
    refine wpAnyH_take (i := 13) (oi := ⟨some 13, _, _, _, _, _⟩) (v := ?v6) rfl (by kernel_rfl) (by kernel_rfl) (by kernel_rfl) (fun _ _ _ h => h) (Or.inl ⟨by rfl, ?y6⟩) (by assumption) ?r6
    case y6 => (intro wx hSx; (try dsimp only at hSx); go_simp; (try with_reducible rfl))
    try simp only [Act.put, List.setIfInBounds_toArray, List.set_cons_zero, List.set_cons_succ]
    refine wpAnyH_done (by kernel_rfl) ?_ _
    go_wp2
    go_ret
    exact ⟨rfl, frm_drew _⟩
end Go.Proofs.Ytfdmneefobfldaa
