/- What is known of a new view's beginning. -/
import Derived.Test.YtipalebaaejfjaaDoorDcKnP
import Derived.Test.YtipalebaaejfjaaDoorHeld
namespace Go.Proofs.YtipalebaaejfjaaDoor
open Go.RowKit Go.ChangeShapes
set_option linter.unusedVariables false
set_option linter.unusedSimpArgs false
set_option maxRecDepth 100000
theorem k_vos {w w0 : World} (h : w0 = ((w.alloc (.cells #[.int .u32 0, .int .u64 9] DMk)).alloc (.cells #[.int .u8 0, .int .u8 1, .int .u32 1, .int .u32 0, .slice (some ⟨w.heap.size, 0, none⟩) 1 1, .slice none 0 0, .slice none 0 0, .int .u8 1, .int .u8 1, .int .u32 1, .int .u32 0, .slice (some ⟨w.heap.size, 0, none⟩) 1 1, .slice none 0 0, .slice none 0 0, .int .u8 2, .int .u8 1, .int .u32 1, .int .u32 0, .slice (some ⟨w.heap.size, 0, none⟩) 1 1, .slice none 0 0, .slice none 0 0] 29))) : IsVos w0 (some ⟨w.heap.size + 1, 0, none⟩) 3 (kL w.heap.size) ∧ Blk w0 w.heap.size (mkC (0, 9)) DMk ∧ Frm (fun _ => False) w w0 := by
  have h1 : Blk w0 (w.heap.size + 1) ((kL w.heap.size).flatMap vmC) 29 := by rw [h]; exact two_boxes w (mkC (0, 9)) _ DMk _
  have h2 : Blk w0 w.heap.size (mkC (0, 9)) DMk := by rw [h]; exact (Blk.new w (mkC (0, 9)) DMk).frm (dbox _ _) (fun h => h)
  have hm : IsRow 2 mkC w0 (some ⟨w.heap.size, 0, none⟩) 1 [(0, 9)] := IsRow.of_blk mkC_len (l := [(0, 9)]) (by simpa using h2) (by decide)
  have hv : ∀ i, VmOk w0 (kV w.heap.size i) := fun i => ⟨hm, IsRow.nil _ _, IsRow.nil _ _⟩
  refine ⟨⟨IsRow.of_blk vmC_len h1 (by show 3 ≤ _; decide), ?_, ?_, ?_, ?_, ?_⟩, h2, by rw [h]; exact (dbox _ _).trans (dbox _ _)⟩ <;>
    · intro x hx
      simp only [kL, List.mem_cons, List.not_mem_nil, or_false] at hx
      rcases hx with rfl | rfl | rfl <;> first | exact hv _ | simp [kV]
theorem IsVos.take {w : World} {a : Option Addr} {cap : Nat} {l : List Vm} (h : IsVos w a cap l) (k : Nat) : IsVos w a cap (l.take k) :=
  ⟨h.row.take k, fun x hx => h.ok x (List.mem_of_mem_take hx), fun x hx => h.bp x (List.mem_of_mem_take hx), fun x hx => h.bq x (List.mem_of_mem_take hx), fun x hx => h.bm x (List.mem_of_mem_take hx), fun x hx => h.one x (List.mem_of_mem_take hx)⟩
theorem chG_of {l : List Vm} {sq : Nat → Int} : ∀ {n : Nat}, (∀ i, i < n → ((pickR l (sq (i + 1))).fd || emptyR l (sq (i + 1))) = true) → chG l sq n = true
  | 0, _ => rfl
  | n + 1, h => by rw [chG, h n (by omega), chG_of (fun i hi => h i (by omega))]; rfl
theorem kL_G (mb : Nat) : chG (kL mb) (fun i => (i : Int)) 8 = true :=
  chG_of fun i _ => by rw [kL_empty mb _ (by show (0 : Int) < ((i + 1 : Nat) : Int); omega), Bool.or_true]
theorem kL_O (mb : Nat) : (chL (kL mb) (fun i => (i : Int)) 8).take (chN (kL mb) (fun i => (i : Int)) 8) = [] := by
  simp [chN, kL_pick]
theorem kChoose {w : World} {a : Option Addr} {cap mb : Nat} (h : IsVos w a cap (kL mb)) :
    Calls Tryd.prog 15 #[.int .u32 1, .slice a 3 cap] w fun e w' => (∃ g c, e = .returned (.tuple #[.agg #[.int .u32 0, .int .u64 9], .slice (some ⟨g, 0, none⟩) 0 c, .int .i64 0]) ∧ IsRow 5 rqC w' (some ⟨g, 0, none⟩) c []) ∧ Frm (fun _ => False) w w' :=
  Choose_ok h rfl 1 (kL_vts _) (kL_base _) (fun i => (i : Int)) (fun i h1 h2 => by omega) (kL_G mb) (kL_O mb) rfl
theorem kChoose2 {w : World} {a : Option Addr} {cap mb : Nat} (h : IsVos w a cap (kL mb)) :
    Calls Tryd.prog 15 #[.int .u32 1, .slice a 2 cap] w fun e w' => e = .returned (.tuple #[.agg #[.int .u32 0, .int .u64 0], .slice none 0 0, .int .i64 150]) ∧ Frm (fun _ => False) w w' :=
  Choose_bad (h.take 2) rfl 1 (kL_vts2 _)
theorem kVotes {w : World} {a : Option Addr} {cap mb : Nat} (h : IsVos w a cap (kL mb)) :
    Calls Tryd.prog 17 #[.int .u32 1, .slice a 3 cap] w fun e w' => e = .returned (.bool true) ∧ Frm (fun _ => False) w w' :=
  Votes_at h rfl 1 true (kL_vts _) w (Frm.refl _ _)
theorem kEmpty {w : World} {a : Option Addr} {cap mb : Nat} (h : IsVos w a cap (kL mb)) :
    Calls Tryd.prog 19 #[.slice a 3 cap, .int .u32 3] w fun e w' => e = .returned (.bool true) ∧ Frm (fun _ => False) w w' :=
  Empty_calls h.row rfl h.ok 3 true (kL_empty _ 3 (by decide))
set_option maxHeartbeats 64000000 in
theorem known_calls (w : World) : Calls Tryd.prog 9 #[] w fun e w' => e = .returned (.bool true) ∧ Frm (fun _ => False) w w' := by
  obtain ⟨hv, hm, hf⟩ := k_vos (w := w) rfl
  have HV := hid hv; have HM := hid hm; have HF := hid hf
  clear hv hm hf
  go_enter Tryd.func9, Tryd.ntmps9
  go_wp2_with (first
    | (go_at_call 15; (with_reducible refine (kChoose HV.out).mono ?_); rintro e w1 ⟨⟨g, c, rfl, _⟩, f'⟩; have HV1 := hid ((HV.out.quiet f').quiet (dbox w1 (.cells #[.int .u32 0, .int .u64 9] DMk))); have HM1 := hid ((HM.out.frm f' (fun h => h)).frm (dbox w1 (.cells #[.int .u32 0, .int .u64 9] DMk)) (fun h => h)); have HB1 := hid (Blk.new w1 [.int .u32 0, .int .u64 9] DMk); have HF1 := hid ((HF.out.trans f').trans (dbox w1 (.cells #[.int .u32 0, .int .u64 9] DMk))); clear HV HM HF f')
    | (go_at_call 15; (with_reducible refine (kChoose2 HV1.out).mono ?_); rintro e w2 ⟨rfl, f'⟩; have HV2 := hid ((HV1.out.quiet f').quiet (dbox w2 (.cells #[.int .u32 0, .int .u64 0] DMk))); have HM2 := hid ((HM1.out.frm f' (fun h => h)).frm (dbox w2 (.cells #[.int .u32 0, .int .u64 0] DMk)) (fun h => h)); have HB2 := hid ((HB1.out.frm f' (fun h => h)).frm (dbox w2 (.cells #[.int .u32 0, .int .u64 0] DMk)) (fun h => h)); have HF2 := hid ((HF1.out.trans f').trans (dbox w2 (.cells #[.int .u32 0, .int .u64 0] DMk))); clear HV1 HM1 HB1 HF1 f'))
  generalize w2.alloc (.cells #[.int .u32 0, .int .u64 0] DMk) = w3 at *
  have HV := hid (HV2.out.quiet (frm_drew w3)); have HM := hid HM2.out.drew; have HB := hid HB2.out.drew; have HF := hid HF2.out.drew
  have b0 := HB2.out.cell 0; have b1 := HB2.out.cell 1; have m0 := HM2.out.cell 0; have m1 := HM2.out.cell 1
  have q1 := eql_dm w3.drew 0 9 0 9 true rfl
  (simp only [mkC, List.getElem?_cons_succ, List.getElem?_cons_zero] at b0 b1 m0 m1)
  clear HV2 HM2 HB2 HF2
  go_region_held3 (fun wx => wx.cell? ⟨w1.heap.size, 0, none⟩ = some (.int .u32 0) ∧ wx.cell? ⟨w1.heap.size, 1, none⟩ = some (.int .u64 9) ∧ wx.cell? ⟨w.heap.size, 0, none⟩ = some (.int .u32 0) ∧ wx.cell? ⟨w.heap.size, 1, none⟩ = some (.int .u64 9)) (first | go_keep | exact ⟨HB.out.cell 0, HB.out.cell 1, HM.out.cell 0, HM.out.cell 1⟩) (first
    | (go_at_call 17; (with_reducible refine (kVotes HV.out).mono ?_); rintro e w4 ⟨rfl, f'⟩; have HV_ := hid (HV.out.quiet f'); have HM_ := hid (HM.out.frm f' (fun h => h)); have HB_ := hid (HB.out.frm f' (fun h => h)); have HF_ := hid (HF.out.trans f'); clear HV HM HB HF f'; have HV := HV_; have HM := HM_; have HB := HB_; have HF := HF_; clear HV_ HM_ HB_ HF_)
    | (go_at_call 19; (with_reducible refine (kEmpty HV.out).mono ?_); rintro e w4 ⟨rfl, f'⟩; have HV_ := hid (HV.out.quiet f'); have HM_ := hid (HM.out.frm f' (fun h => h)); have HB_ := hid (HB.out.frm f' (fun h => h)); have HF_ := hid (HF.out.trans f'); clear HV HM HB HF f'; have HV := HV_; have HM := HM_; have HB := HB_; have HF := HF_; clear HV_ HM_ HB_ HF_))
  go_wp2
  go_ret
  exact ⟨rfl, HF.out⟩
end Go.Proofs.YtipalebaaejfjaaDoor
