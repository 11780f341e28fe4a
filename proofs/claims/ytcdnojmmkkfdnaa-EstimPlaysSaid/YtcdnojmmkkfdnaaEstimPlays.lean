/- EstimPlays, walked: every row of what is told: who is counted, the bound, as the document says. -/
import Derived.Test.YtcdnojmmkkfdnaaEstimKnown
import Derived.Test.YtcdnojmmkkfdnaaEstimRef
import Derived.Test.YtcdnojmmkkfdnaaTypes
import Derived.OpenShut
import Derived.Deep.QuietTactic
import Derived.BigQuiet
import Derived.Deep.RegionHeld3
namespace Go.Proofs.Ytcdnojmmkkfdnaa
open Go.RowKit Go.ChangeShapes
structure Keeps (s : Es) : Prop where
  z0 : s.t0 = false → s.s0 = 0
  z1 : s.t1 = false → s.s1 = 0
  z2 : s.t2 = false → s.s2 = 0
  z3 : s.t3 = false → s.s3 = 0
  ok : s.Ok
theorem keeps_new (f c : Int) : Keeps (esNew f c) := ⟨fun _ => rfl, fun _ => rfl, fun _ => rfl, fun _ => rfl, ⟨by simp [esNew], by simp [esNew], by simp [esNew], by simp [esNew]⟩⟩
theorem keeps_add {s : Es} (h : Keeps s) (f c q : Int) (hq : 0 ≤ q) : Keeps (s.add f c q) := by
  have hok := h.ok.add f c q hq
  obtain ⟨h0, h1, h2, h3, _⟩ := h
  revert hok
  unfold Es.add
  split
  · intro hok
    refine ⟨?_, ?_, ?_, ?_, hok⟩
    all_goals
      unfold Es.set
      (repeat' split) <;> first | exact h0 | exact h1 | exact h2 | exact h3 | (intro h; simp at h)
  · intro hok
    exact ⟨h0, h1, h2, h3, hok⟩
set_option maxRecDepth 100000 in
set_option maxHeartbeats 4000000 in
theorem EstimPlays_walk (self c : Int) (a2 : Option Addr) (c2 : Nat) (z2 : List (Int × Int × Int × Unit)) (w : World) (_ : (Lit.int .u8 self).wf = true) (_ : (Lit.int .u8 c).wf = true) (h1 : SlK c33 w a2 c2 z2) :
    Calls Try.prog 3 #[.int .u8 self, .int .u8 c, .slice a2 z2.length c2] w fun e w' => e = .returned (.bool true) ∧ Below w.heap.size w w' := by
  have hle := h1.le
  have hsm := h1.small
  by_cases hlen : z2.length > 40
  · go_enter Try.func3, Try.ntmps3
    go_wp2_with (go_at_call 6; (with_reducible refine (known_calls _).mono ?_); rintro e w1 ⟨rfl, f1⟩)
    go_ret
    exact ⟨rfl, f1⟩
  go_enter Try.func3, Try.ntmps3
  go_wp2_with (first
      | (go_at_call 6; (with_reducible refine (known_calls _).mono ?_); rintro e w1 ⟨rfl, f1⟩)
      | (go_at_call 7; (with_reducible refine (ENew_calls self c _).mono ?_); rintro e w2 ⟨b, hb0, rfl, h2, f2⟩))
  generalize hwz : w2.alloc (Obj.cells _ 31) = wz
  have h3 : IsRe wz w2.heap.size (esNew self c) := hwz ▸ Blk.new w2 (esNew self c).rcells 31
  have h4 : IsEs wz b (esNew self c) := hwz ▸ h2.alloc _
  have f3 : Below w.heap.size w wz := hwz ▸ (below_frm0 f1 f2).alloc (Nat.le_trans f1.size f2.size) _
  have hbr := h2.lt
  have hb : w.heap.size ≤ b := Nat.le_trans f1.size hb0
  clear h2 f2 f1 hb0 hwz
  generalize w2.heap.size = r at *
  have hrb : w.heap.size ≤ r := by omega
  have hne : b ≠ r := by omega
  have hk := keeps_new self c
  generalize esNew self c = s0 at *
  go_loopw [9] (fun i wr => ∃ (k : Nat) (s : Es), k ≤ z2.length ∧ i = .int .i64 k ∧ IsEs wr b s ∧ IsRe wr r s ∧ Keeps s ∧ Below w.heap.size w wr) (fun i _ => z2.length - (intOf i).toNat)
  case atStart => exact ⟨0, s0, by omega, rfl, h4, h3, hk, f3⟩
  case round =>
    clear h3 h4 hk f3
    obtain ⟨k, s, hk, rfl, hs, hr, hg, hf⟩ := hrel
    by_cases hlt : k < z2.length
    · obtain ⟨ba, off, rfl, hba, hc⟩ := h1.at_ (by omega)
      obtain ⟨x, hx⟩ : ∃ x, z2[k]? = some x := ⟨z2[k], List.getElem?_eq_getElem hlt⟩
      obtain ⟨cs, hkx, hcx⟩ := hc k x hx
      rw [cells33] at hcx
      obtain ⟨_, g0, y0, g1, y1, g2, y2⟩ := k33 hkx
      have q0 : wr.cell? ⟨ba, off + k * 3, none⟩ = _ := (hf.cell (p := ⟨ba, _, none⟩) hba).trans (hcx 0 _ g0)
      have q1 : wr.cell? ⟨ba, off + k * 3 + 1, none⟩ = _ := (hf.cell (p := ⟨ba, _, none⟩) hba).trans (hcx 1 _ g1)
      have q2 : wr.cell? ⟨ba, off + k * 3 + 2, none⟩ = _ := (hf.cell (p := ⟨ba, _, none⟩) hba).trans (hcx 2 _ g2)
      have b0 := bounds_u8 y0
      have b2 := bounds_u32 y2
      clear hc hcx hkx g0 g1 g2 y0 y1 y2 h1 hx
      obtain ⟨fr, co, sq, _⟩ := x
      dsimp only at *
      have HS := hid hs; clear hs
      have HR := hid hr; clear hr
      have HF := hid hf; clear hf
      have HG := hid hg; clear hg
      have hnb : wr.heap.size ≠ b := Ne.symm (Nat.ne_of_lt HS.out.lt)
      have hnr : wr.heap.size ≠ r := Ne.symm (Nat.ne_of_lt HR.out.lt)
      go_wp2_with (fail)
      generalize hwa : wr.alloc (Obj.cells #[Value.int .u8 fr, Value.int .u8 co, Value.int .u32 sq] 33) = wa
      have g1 : IsEs wa.drew b s := hwa ▸ (HS.out.alloc _).drew
      have g2 : IsRe wa.drew r s := hwa ▸ (HR.out.alloc _).drew
      have g3 : Below w.heap.size w wa.drew := hwa ▸ (HF.out.alloc HF.out.size _).drew
      have g4 : Blk wa.drew wr.heap.size [Value.int .u8 fr, Value.int .u8 co, Value.int .u32 sq] 33 := hwa ▸ (Blk.new _ _ _).drew
      clear HS HR HF hwa q0 q1 q2
      generalize wr.heap.size = sb at *
      have HS := hid g1; clear g1
      have HR := hid g2; clear g2
      have HF := hid g3; clear g3
      have H3 := hid g4; clear g4
      have q0 : wa.cell? ⟨sb, 0, none⟩ = some (.int .u8 fr) := H3.out.cell 0
      have q1 : wa.cell? ⟨sb, 1, none⟩ = some (.int .u8 co) := H3.out.cell 1
      have q2 : wa.cell? ⟨sb, 2, none⟩ = some (.int .u32 sq) := H3.out.cell 2
      have nb0 := b0.1
      have ns0 := b2.1
      go_region_held3 (fun wx => wx.cell? ⟨sb, 0, none⟩ = some (.int .u8 fr) ∧ wx.cell? ⟨sb, 1, none⟩ = some (.int .u8 co) ∧ wx.cell? ⟨sb, 2, none⟩ = some (.int .u32 sq)) (go_keep) (first
          | (go_at_call 8; (with_reducible refine (Add_calls b _ _ HS.out fr co sq nb0 ns0).mono ?_); rintro e w' ⟨rfl, h', f'⟩; have q0' : w'.cell? ⟨sb, 0, none⟩ = some (.int .u8 fr) := (H3.out.frm f' hnb).cell 0; have q1' : w'.cell? ⟨sb, 1, none⟩ = some (.int .u8 co) := (H3.out.frm f' hnb).cell 1; have q2' : w'.cell? ⟨sb, 2, none⟩ = some (.int .u32 sq) := (H3.out.frm f' hnb).cell 2; have n0_ := hid (HR.out.frm f' (Ne.symm hne)); have n1_ := hid (H3.out.frm f' hnb); have nf_ := hid (below_frm1 HF.out f' hb); clear HF f' HS HR H3; have HF := nf_; clear nf_; have HS := hid h'; clear h'; have HR := n0_; clear n0_; have H3 := n1_; clear n1_)
          | (go_at_call 9; (with_reducible refine (RAdd_calls r _ _ HR.out fr co sq nb0 ns0).mono ?_); rintro e w' ⟨rfl, h', f'⟩; have q0' : w'.cell? ⟨sb, 0, none⟩ = some (.int .u8 fr) := (H3.out.frm f' hnr).cell 0; have q1' : w'.cell? ⟨sb, 1, none⟩ = some (.int .u8 co) := (H3.out.frm f' hnr).cell 1; have q2' : w'.cell? ⟨sb, 2, none⟩ = some (.int .u32 sq) := (H3.out.frm f' hnr).cell 2; have n0_ := hid (HS.out.frm f' hne); have n1_ := hid (H3.out.frm f' hnr); have nf_ := hid (below_frm1 HF.out f' hrb); clear HF f' HR HS H3; have HF := nf_; clear nf_; have HR := hid h'; clear h'; have HS := n0_; clear n0_; have H3 := n1_; clear n1_))
      have HK := hid (keeps_add HG.out fr co sq ns0)
      clear HG H3
      generalize s.add fr co sq = s1 at *
      obtain ⟨bv, hbv⟩ : ∃ v, (if s1.cnt 4 < 3 then 0 else s1.top 4 + 8) = v := ⟨_, rfl⟩
      obtain ⟨bc, hbc⟩ : ∃ v, decide (3 ≤ s1.cnt 4) = v := ⟨_, rfl⟩
      have BV := hid hbv; clear hbv
      have BC := hid hbc; clear hbc
      go_wp2_with (first
          | (go_at_call 10; (with_reducible refine (Bound_calls b _ _ HS.out HK.out.ok).mono ?_); rintro e w' ⟨rfl, f'⟩; rw [BV.out, BC.out]; have n0_ := hid (HS.out.frm f' (fun h => h)); have n1_ := hid (HR.out.frm f' (fun h => h)); have nf_ := hid (below_frm0 HF.out f'); clear HF f' HS HR; have HF := nf_; clear nf_; have HS := n0_; clear n0_; have HR := n1_; clear n1_)
          | (go_at_call 11; (with_reducible refine (RBound_calls r _ _ HR.out HK.out.ok HK.out.z0 HK.out.z1 HK.out.z2 HK.out.z3).mono ?_); rintro e w' ⟨rfl, rfl⟩; rw [BV.out, BC.out]))
      go_loopw [15, 16] (fun n i wi => ∃ q : Nat, q ≤ 4 ∧ i = .int .u8 q ∧ n = .int .i64 (s1.cnt q) ∧ IsEs wi b s1 ∧ IsRe wi r s1 ∧ Below w.heap.size w wi) (fun _ i _ => 4 - (intOf i).toNat)
      case atStart => exact ⟨0, by omega, rfl, by simp [Es.cnt], HS.out, HR.out, HF.out⟩
      case round =>
        clear HS HR HF
        obtain ⟨wo, rfl⟩ : ∃ wo : World, wo = wr := ⟨_, rfl⟩
        rename_i wi _ _
        obtain ⟨q, hq, rfl, rfl, hs, hr, hf⟩ := hrel
        have t0 := hr.cell 2
        have t1 := hr.cell 3
        have t2 := hr.cell 4
        have t3 := hr.cell 5
        simp only [Es.rcells, List.getElem?_cons_succ, List.getElem?_cons_zero] at t0 t1 t2 t3
        have HS := hid hs; clear hs
        have HR := hid hr; clear hr
        have HF := hid hf; clear hf
        have hq' : q = 0 ∨ q = 1 ∨ q = 2 ∨ q = 3 ∨ q = 4 := by omega
        rcases hq' with rfl | rfl | rfl | rfl | rfl
        · have cb := cnt_bd s1 0
          have hn1 : s1.cnt 1 = s1.cnt 0 + (if s1.t0 then 1 else 0) := by simp [Es.cnt]
          have HN := hid hn1; clear hn1
          generalize hcn : s1.cnt 0 = n at *
          clear hcn
          cases htq : s1.t0 with
          | false =>
            rw [htq] at t0
            have HA : Hid (s1.at_ 0 = false) := htq
            have HT := hid htq; clear htq
            go_wp2_with (fail)
            go_quiet ((go_at_call 12; exact quiet_same (v := .bool false) ((Has_calls b _ _ (HS.out.drewN _) 0 (by decide)).mono (fun _ _ h => ⟨by rw [h.1, HA.out], h.2⟩))))
            go_wp2
            go_roundw
            case rel => exact ⟨1, by omega, rfl, by rw [HN.out, HT.out]; simp, HS.out.drewN _, HR.out.drewN _, below_drewN HF.out _⟩
            case measure => simp [intOf]
          | true =>
            rw [htq] at t0
            have HA : Hid (s1.at_ 0 = true) := htq
            have HT := hid htq; clear htq
            go_wp2_with (fail)
            go_quiet ((go_at_call 12; exact quiet_same (v := .bool true) ((Has_calls b _ _ (HS.out.drewN _) 0 (by decide)).mono (fun _ _ h => ⟨by rw [h.1, HA.out], h.2⟩))))
            go_wp2
            go_roundw
            case rel => exact ⟨1, by omega, rfl, by rw [HN.out, HT.out]; simp, HS.out.drewN _, HR.out.drewN _, below_drewN HF.out _⟩
            case measure => simp [intOf]
        · have cb := cnt_bd s1 1
          have hn1 : s1.cnt 2 = s1.cnt 1 + (if s1.t1 then 1 else 0) := by simp [Es.cnt]
          have HN := hid hn1; clear hn1
          generalize hcn : s1.cnt 1 = n at *
          clear hcn
          cases htq : s1.t1 with
          | false =>
            rw [htq] at t1
            have HA : Hid (s1.at_ 1 = false) := htq
            have HT := hid htq; clear htq
            go_wp2_with (fail)
            go_quiet ((go_at_call 12; exact quiet_same (v := .bool false) ((Has_calls b _ _ (HS.out.drewN _) 1 (by decide)).mono (fun _ _ h => ⟨by rw [h.1, HA.out], h.2⟩))))
            go_wp2
            go_roundw
            case rel => exact ⟨2, by omega, rfl, by rw [HN.out, HT.out]; simp, HS.out.drewN _, HR.out.drewN _, below_drewN HF.out _⟩
            case measure => simp [intOf]
          | true =>
            rw [htq] at t1
            have HA : Hid (s1.at_ 1 = true) := htq
            have HT := hid htq; clear htq
            go_wp2_with (fail)
            go_quiet ((go_at_call 12; exact quiet_same (v := .bool true) ((Has_calls b _ _ (HS.out.drewN _) 1 (by decide)).mono (fun _ _ h => ⟨by rw [h.1, HA.out], h.2⟩))))
            go_wp2
            go_roundw
            case rel => exact ⟨2, by omega, rfl, by rw [HN.out, HT.out]; simp, HS.out.drewN _, HR.out.drewN _, below_drewN HF.out _⟩
            case measure => simp [intOf]
        · have cb := cnt_bd s1 2
          have hn1 : s1.cnt 3 = s1.cnt 2 + (if s1.t2 then 1 else 0) := by simp [Es.cnt]
          have HN := hid hn1; clear hn1
          generalize hcn : s1.cnt 2 = n at *
          clear hcn
          cases htq : s1.t2 with
          | false =>
            rw [htq] at t2
            have HA : Hid (s1.at_ 2 = false) := htq
            have HT := hid htq; clear htq
            go_wp2_with (fail)
            go_quiet ((go_at_call 12; exact quiet_same (v := .bool false) ((Has_calls b _ _ (HS.out.drewN _) 2 (by decide)).mono (fun _ _ h => ⟨by rw [h.1, HA.out], h.2⟩))))
            go_wp2
            go_roundw
            case rel => exact ⟨3, by omega, rfl, by rw [HN.out, HT.out]; simp, HS.out.drewN _, HR.out.drewN _, below_drewN HF.out _⟩
            case measure => simp [intOf]
          | true =>
            rw [htq] at t2
            have HA : Hid (s1.at_ 2 = true) := htq
            have HT := hid htq; clear htq
            go_wp2_with (fail)
            go_quiet ((go_at_call 12; exact quiet_same (v := .bool true) ((Has_calls b _ _ (HS.out.drewN _) 2 (by decide)).mono (fun _ _ h => ⟨by rw [h.1, HA.out], h.2⟩))))
            go_wp2
            go_roundw
            case rel => exact ⟨3, by omega, rfl, by rw [HN.out, HT.out]; simp, HS.out.drewN _, HR.out.drewN _, below_drewN HF.out _⟩
            case measure => simp [intOf]
        · have cb := cnt_bd s1 3
          have hn1 : s1.cnt 4 = s1.cnt 3 + (if s1.t3 then 1 else 0) := by simp [Es.cnt]
          have HN := hid hn1; clear hn1
          generalize hcn : s1.cnt 3 = n at *
          clear hcn
          cases htq : s1.t3 with
          | false =>
            rw [htq] at t3
            have HA : Hid (s1.at_ 3 = false) := htq
            have HT := hid htq; clear htq
            go_wp2_with (fail)
            go_quiet ((go_at_call 12; exact quiet_same (v := .bool false) ((Has_calls b _ _ (HS.out.drewN _) 3 (by decide)).mono (fun _ _ h => ⟨by rw [h.1, HA.out], h.2⟩))))
            go_wp2
            go_roundw
            case rel => exact ⟨4, by omega, rfl, by rw [HN.out, HT.out]; simp, HS.out.drewN _, HR.out.drewN _, below_drewN HF.out _⟩
            case measure => simp [intOf]
          | true =>
            rw [htq] at t3
            have HA : Hid (s1.at_ 3 = true) := htq
            have HT := hid htq; clear htq
            go_wp2_with (fail)
            go_quiet ((go_at_call 12; exact quiet_same (v := .bool true) ((Has_calls b _ _ (HS.out.drewN _) 3 (by decide)).mono (fun _ _ h => ⟨by rw [h.1, HA.out], h.2⟩))))
            go_wp2
            go_roundw
            case rel => exact ⟨4, by omega, rfl, by rw [HN.out, HT.out]; simp, HS.out.drewN _, HR.out.drewN _, below_drewN HF.out _⟩
            case measure => simp [intOf]
        · have HA : Hid (s1.at_ 9 = false) := rfl
          generalize hcn : s1.cnt 4 = n at *
          have HN := hid hcn; clear hcn
          clear t0 t1 t2 t3
          go_wp2_with (first
            | (go_at_call 13; (with_reducible refine (Len_calls b _ _ HS.out).mono ?_); rintro e w' ⟨rfl, f'⟩; rw [HN.out]; have n0_ := hid (HS.out.frm f' (fun h => h)); have n1_ := hid (HR.out.frm f' (fun h => h)); have nf_ := hid (below_frm0 HF.out f'); clear HF f' HS HR; have HF := nf_; clear nf_; have HS := n0_; clear n0_; have HR := n1_; clear n1_)
            | (go_at_call 12; (with_reducible refine (Has_calls b _ _ HS.out 9 (by decide)).mono ?_); rintro e w' ⟨rfl, rfl⟩; rw [HA.out]))
          go_roundw
          case rel => exact ⟨k + 1, s1, by omega, by go_num, HS.out, HR.out, HK.out, HF.out⟩
          case measure => simp [intOf]; omega
    · go_wp2
      go_ret
      exact ⟨rfl, hf⟩
end Go.Proofs.Ytcdnojmmkkfdnaa
