/- The log within its window: count, says, ready, what is committed. -/
import Derived.Test.YtijomhinfcahpaaSlot
import Derived.Deep.WholeRow
import Derived.Deep.MidRow
namespace Go.Proofs.Ytijomhinfcahpaa
open Go.RowKit Go.ChangeShapes
set_option linter.unusedVariables false
set_option linter.unusedSimpArgs false
set_option maxRecDepth 20000
abbrev TS4 : Nat := 65
theorem eql_sd (w : World) (a b : Sd) : (binOp .eql TSd (.agg (sdV a).toArray) (.agg (sdV b).toArray)).run Try.prog w = .ok (.bool (sdEq a b)) w := by
  obtain ⟨a0, a1, a2, a3, a4, a5, a6⟩ := a
  obtain ⟨b0, b1, b2, b3, b4, b5, b6⟩ := b
  simp only [sdV]
  go_simp
  repeat' split
  all_goals simp_all [sdEq]
theorem wpList_eql_agg {P : Program} {w : World} {ops : Array Oper} {rest : List Oper} {o : Oper} {a : Act} {Q : Exit → Act → World → Prop} (hg : o.guard = none) (t t2 : TypeId) (x y : Operand) (X Y : Array Value) (v : Value) (hop : o.op = .binOp .eql t x y t2) (hx : a.eval x = .agg X) (hy : a.eval y = .agg Y)
    (hm : P.eqGuardType P.depth t = false) (hr : (binOp .eql t (.agg X) (.agg Y)).run P w = .ok v w) (hK : wpList P ops Q rest (a.put o.dst v) w) : wpList P ops Q (o :: rest) a w := by
  refine wpList_plain hg fun K' hK' => ?_
  unfold Oper.wp execOp
  simp only [hop, hx, hy, Sem.run_bind, run_eqGuard_agg _ _ _ _ _ _ _ hm, hr, Result.andThen_ok, Sem.run_pure]
  exact hK' _ _ hK
def s4V (a0 a1 a2 a3 : Sd) : List Value := sdV a0 ++ (sdV a1 ++ (sdV a2 ++ sdV a3))
theorem idx0 (a0 a1 a2 a3 : Sd) (w : World) : (Instr.index TS4 (.agg (s4V a0 a1 a2 a3).toArray) (.int .i64 0)).run Try.prog w = .ok (.agg #[.bool a0.th, .int .u32 a0.vw, .int .u8 a0.c, .int .u32 a0.t, .int .u8 a0.k, .int .u8 a0.y, .int .u16 a0.v]) w := by kernel_rfl
theorem idx1 (a0 a1 a2 a3 : Sd) (w : World) : (Instr.index TS4 (.agg (s4V a0 a1 a2 a3).toArray) (.int .i64 1)).run Try.prog w = .ok (.agg #[.bool a1.th, .int .u32 a1.vw, .int .u8 a1.c, .int .u32 a1.t, .int .u8 a1.k, .int .u8 a1.y, .int .u16 a1.v]) w := by kernel_rfl
theorem idx2 (a0 a1 a2 a3 : Sd) (w : World) : (Instr.index TS4 (.agg (s4V a0 a1 a2 a3).toArray) (.int .i64 2)).run Try.prog w = .ok (.agg #[.bool a2.th, .int .u32 a2.vw, .int .u8 a2.c, .int .u32 a2.t, .int .u8 a2.k, .int .u8 a2.y, .int .u16 a2.v]) w := by kernel_rfl
theorem idx3 (a0 a1 a2 a3 : Sd) (w : World) : (Instr.index TS4 (.agg (s4V a0 a1 a2 a3).toArray) (.int .i64 3)).run Try.prog w = .ok (.agg #[.bool a3.th, .int .u32 a3.vw, .int .u8 a3.c, .int .u32 a3.t, .int .u8 a3.k, .int .u8 a3.y, .int .u16 a3.v]) w := by kernel_rfl
theorem size_s4 (a0 a1 a2 a3 : Sd) : (Try.prog.info? TS4).map (·.size) = some (s4V a0 a1 a2 a3).length := by kernel_rfl
def hit (a s : Sd) (i but : Int) : Int := if sdEq a s = true ∧ i ≠ but then 1 else 0
theorem hit_yes {a s : Sd} {i but : Int} (h : sdEq a s = true) (h2 : i ≠ but) : hit a s i but = 1 := if_pos ⟨h, h2⟩
theorem hit_no {a s : Sd} {i but : Int} (h : sdEq a s = false) : hit a s i but = 0 := if_neg (fun h2 => by rw [h] at h2; cases h2.1)
theorem hit_but {a s : Sd} {i but : Int} (h : i = but) : hit a s i but = 0 := if_neg (fun h2 => h2.2 h)
theorem hit_le (a s : Sd) (i but : Int) : 0 ≤ hit a s i but ∧ hit a s i but ≤ 1 := by unfold hit; split <;> omega
def cntK (a0 a1 a2 a3 s : Sd) (but : Int) : Nat → Int
  | 0 => 0
  | 1 => hit a0 s 0 but
  | 2 => hit a0 s 0 but + hit a1 s 1 but
  | 3 => hit a0 s 0 but + hit a1 s 1 but + hit a2 s 2 but
  | _ => hit a0 s 0 but + hit a1 s 1 but + hit a2 s 2 but + hit a3 s 3 but
/-- How many said just this, but one. -/
def cnt4 (a0 a1 a2 a3 s : Sd) (but : Int) : Int := hit a0 s 0 but + hit a1 s 1 but + hit a2 s 2 but + hit a3 s 3 but
theorem cntK_le (a0 a1 a2 a3 s : Sd) (but : Int) (k : Nat) : 0 ≤ cntK a0 a1 a2 a3 s but k ∧ cntK a0 a1 a2 a3 s but k ≤ 4 := by
  have h0 := hit_le a0 s 0 but; have h1 := hit_le a1 s 1 but; have h2 := hit_le a2 s 2 but; have h3 := hit_le a3 s 3 but
  unfold cntK; split <;> omega
theorem range_box (w : World) (L : List Value) (T : Nat) (o : Obj) : ((w.alloc (.cells L.toArray T)).alloc o).rangeAt w.heap.size 0 L := fun j v hj => by
  rw [Nat.zero_add, ((Blk.new w L T).alloc o).cell j]; exact hj
set_option maxHeartbeats 4000000 in
theorem Count_calls (w : World) (a0 a1 a2 a3 s : Sd) (Z : Array Value) (hZ : (s4V a0 a1 a2 a3).toArray = Z) (but n : Int) (hn : cnt4 a0 a1 a2 a3 s but = n) :
    Calls Try.prog 34 #[.agg Z, .agg #[.bool s.th, .int .u32 s.vw, .int .u8 s.c, .int .u32 s.t, .int .u8 s.k, .int .u8 s.y, .int .u16 s.v], .int .i64 but] w fun e w' => e = .returned (.int .i64 n) ∧ Frm (fun _ => False) w w' := by
  have HX := hid (fun o => hZ ▸ range_box w (s4V a0 a1 a2 a3) TS4 o)
  have HS := hid (size_s4 a0 a1 a2 a3)
  have HZ := hid hZ; have HN := hid hn
  have HW0 := hid (Nat.le_refl w.heap.size)
  have HB := hid ((Blk.new (w.alloc (.cells Z TS4)) (sdV s) TSd))
  have hsz : (w.alloc (.cells Z TS4)).heap.size = w.heap.size + 1 := World.size_alloc _ _
  have HSZ := hid hsz
  clear hZ hn hsz
  go_enter Try.func34, Try.ntmps34
  go_wp2_with ((with_reducible show wpList _ _ _ _ _ _); refine wpList_load_mid rfl TS4 (.tmp 3) rfl w.heap.size 0 rfl (s4V a0 a1 a2 a3) (.array 4 TSd) (HX.out _) Try.underlying65 rfl HS.out ?_; rw [HZ.out])
  go_loopw [7, 11] (fun nv iv wr => ∃ k : Nat, k ≤ 4 ∧ nv = .int .i64 (cntK a0 a1 a2 a3 s but k) ∧ iv = .int .i64 k ∧ Blk wr (w.heap.size + 1) (sdV s) TSd ∧ Frm (fun _ => False) w wr) (fun _ i _ => 4 - (intOf i).toNat)
  case atStart => exact ⟨0, by omega, rfl, rfl, HSZ.out ▸ HB.out, ((Frm.refl _ _).alloc _).alloc _⟩
  case round =>
    obtain ⟨k, hk, rfl, rfl, hb, hf⟩ := hrel
    have HBB := hid hb; have HF := hid hf; clear hb hf
    obtain ⟨C, hC⟩ : ∃ C, cntK a0 a1 a2 a3 s but k = C := ⟨_, rfl⟩
    have hcb := cntK_le a0 a1 a2 a3 s but k
    rw [hC] at hcb ⊢
    have HC := hid hC; clear hC
    have hc0 := hcb.1; have hc4 := hcb.2
    clear hcb
    have q0 := fun o => (HBB.out.alloc o).cell 0; have q1 := fun o => (HBB.out.alloc o).cell 1; have q2 := fun o => (HBB.out.alloc o).cell 2; have q3 := fun o => (HBB.out.alloc o).cell 3; have q4 := fun o => (HBB.out.alloc o).cell 4; have q5 := fun o => (HBB.out.alloc o).cell 5; have q6 := fun o => (HBB.out.alloc o).cell 6
    simp only [sdV, List.getElem?_cons_succ, List.getElem?_cons_zero] at q0 q1 q2 q3 q4 q5 q6
    rcases (show k = 0 ∨ k = 1 ∨ k = 2 ∨ k = 3 ∨ k = 4 by omega) with rfl | rfl | rfl | rfl | rfl
    · have ix := fun w => idx0 a0 a1 a2 a3 w
      rw [HZ.out] at ix
      clear hk
      by_cases hb : (0 : Int) = but
      · subst hb
        have hct : cntK a0 a1 a2 a3 s 0 (1) = C := by rw [← HC.out]; simp only [cntK]; have := hit_but (a := a0) (s := s) (rfl : (0 : Int) = 0); omega
        have HCT := hid hct; clear hct
        obtain ⟨z, hz⟩ : ∃ z, sdEq a0 s = z := ⟨_, rfl⟩
        have HZZ := hid hz; clear hz
        cases z
        all_goals
          go_wp2_with (refine wpList_eql_agg rfl _ _ _ _ _ _ _ rfl rfl rfl (by kernel_rfl) (eql_sd _ a0 s) ?_; rw [HZZ.out])
          go_roundw
          case rel => exact ⟨1, by omega, by rw [HCT.out], rfl, HBB.out.alloc _, HF.out.alloc _⟩
          case measure => simp [intOf]
      · have z1 : ((0 : Int) == but) = false := beq_eq_false_iff_ne.2 hb
        have z2 : ((0 : Int) != but) = true := by rw [bne, z1]; rfl
        obtain ⟨z, hz⟩ : ∃ z, sdEq a0 s = z := ⟨_, rfl⟩
        cases z
        · have hct : cntK a0 a1 a2 a3 s but (1) = C := by rw [← HC.out]; simp only [cntK]; have := hit_no (i := 0) (but := but) hz; omega
          have HCT := hid hct; clear hct
          have HZZ := hid hz; clear hz hb
          go_wp2_with (refine wpList_eql_agg rfl _ _ _ _ _ _ _ rfl rfl rfl (by kernel_rfl) (eql_sd _ a0 s) ?_; rw [HZZ.out])
          go_roundw
          case rel => exact ⟨1, by omega, by rw [HCT.out], rfl, HBB.out.alloc _, HF.out.alloc _⟩
          case measure => simp [intOf]
        · have hct : cntK a0 a1 a2 a3 s but (1) = C + 1 := by rw [← HC.out]; simp only [cntK]; have := hit_yes (i := 0) hz hb; omega
          have HCT := hid hct; clear hct
          have HZZ := hid hz; clear hz hb
          go_wp2_with (refine wpList_eql_agg rfl _ _ _ _ _ _ _ rfl rfl rfl (by kernel_rfl) (eql_sd _ a0 s) ?_; rw [HZZ.out])
          go_roundw
          case rel => exact ⟨1, by omega, by rw [HCT.out], rfl, HBB.out.alloc _, HF.out.alloc _⟩
          case measure => simp [intOf]
    · have ix := fun w => idx1 a0 a1 a2 a3 w
      rw [HZ.out] at ix
      clear hk
      by_cases hb : (1 : Int) = but
      · subst hb
        have hct : cntK a0 a1 a2 a3 s 1 (2) = C := by rw [← HC.out]; simp only [cntK]; have := hit_but (a := a1) (s := s) (rfl : (1 : Int) = 1); omega
        have HCT := hid hct; clear hct
        obtain ⟨z, hz⟩ : ∃ z, sdEq a1 s = z := ⟨_, rfl⟩
        have HZZ := hid hz; clear hz
        cases z
        all_goals
          go_wp2_with (refine wpList_eql_agg rfl _ _ _ _ _ _ _ rfl rfl rfl (by kernel_rfl) (eql_sd _ a1 s) ?_; rw [HZZ.out])
          go_roundw
          case rel => exact ⟨2, by omega, by rw [HCT.out], rfl, HBB.out.alloc _, HF.out.alloc _⟩
          case measure => simp [intOf]
      · have z1 : ((1 : Int) == but) = false := beq_eq_false_iff_ne.2 hb
        have z2 : ((1 : Int) != but) = true := by rw [bne, z1]; rfl
        obtain ⟨z, hz⟩ : ∃ z, sdEq a1 s = z := ⟨_, rfl⟩
        cases z
        · have hct : cntK a0 a1 a2 a3 s but (2) = C := by rw [← HC.out]; simp only [cntK]; have := hit_no (i := 1) (but := but) hz; omega
          have HCT := hid hct; clear hct
          have HZZ := hid hz; clear hz hb
          go_wp2_with (refine wpList_eql_agg rfl _ _ _ _ _ _ _ rfl rfl rfl (by kernel_rfl) (eql_sd _ a1 s) ?_; rw [HZZ.out])
          go_roundw
          case rel => exact ⟨2, by omega, by rw [HCT.out], rfl, HBB.out.alloc _, HF.out.alloc _⟩
          case measure => simp [intOf]
        · have hct : cntK a0 a1 a2 a3 s but (2) = C + 1 := by rw [← HC.out]; simp only [cntK]; have := hit_yes (i := 1) hz hb; omega
          have HCT := hid hct; clear hct
          have HZZ := hid hz; clear hz hb
          go_wp2_with (refine wpList_eql_agg rfl _ _ _ _ _ _ _ rfl rfl rfl (by kernel_rfl) (eql_sd _ a1 s) ?_; rw [HZZ.out])
          go_roundw
          case rel => exact ⟨2, by omega, by rw [HCT.out], rfl, HBB.out.alloc _, HF.out.alloc _⟩
          case measure => simp [intOf]
    · have ix := fun w => idx2 a0 a1 a2 a3 w
      rw [HZ.out] at ix
      clear hk
      by_cases hb : (2 : Int) = but
      · subst hb
        have hct : cntK a0 a1 a2 a3 s 2 (3) = C := by rw [← HC.out]; simp only [cntK]; have := hit_but (a := a2) (s := s) (rfl : (2 : Int) = 2); omega
        have HCT := hid hct; clear hct
        obtain ⟨z, hz⟩ : ∃ z, sdEq a2 s = z := ⟨_, rfl⟩
        have HZZ := hid hz; clear hz
        cases z
        all_goals
          go_wp2_with (refine wpList_eql_agg rfl _ _ _ _ _ _ _ rfl rfl rfl (by kernel_rfl) (eql_sd _ a2 s) ?_; rw [HZZ.out])
          go_roundw
          case rel => exact ⟨3, by omega, by rw [HCT.out], rfl, HBB.out.alloc _, HF.out.alloc _⟩
          case measure => simp [intOf]
      · have z1 : ((2 : Int) == but) = false := beq_eq_false_iff_ne.2 hb
        have z2 : ((2 : Int) != but) = true := by rw [bne, z1]; rfl
        obtain ⟨z, hz⟩ : ∃ z, sdEq a2 s = z := ⟨_, rfl⟩
        cases z
        · have hct : cntK a0 a1 a2 a3 s but (3) = C := by rw [← HC.out]; simp only [cntK]; have := hit_no (i := 2) (but := but) hz; omega
          have HCT := hid hct; clear hct
          have HZZ := hid hz; clear hz hb
          go_wp2_with (refine wpList_eql_agg rfl _ _ _ _ _ _ _ rfl rfl rfl (by kernel_rfl) (eql_sd _ a2 s) ?_; rw [HZZ.out])
          go_roundw
          case rel => exact ⟨3, by omega, by rw [HCT.out], rfl, HBB.out.alloc _, HF.out.alloc _⟩
          case measure => simp [intOf]
        · have hct : cntK a0 a1 a2 a3 s but (3) = C + 1 := by rw [← HC.out]; simp only [cntK]; have := hit_yes (i := 2) hz hb; omega
          have HCT := hid hct; clear hct
          have HZZ := hid hz; clear hz hb
          go_wp2_with (refine wpList_eql_agg rfl _ _ _ _ _ _ _ rfl rfl rfl (by kernel_rfl) (eql_sd _ a2 s) ?_; rw [HZZ.out])
          go_roundw
          case rel => exact ⟨3, by omega, by rw [HCT.out], rfl, HBB.out.alloc _, HF.out.alloc _⟩
          case measure => simp [intOf]
    · have ix := fun w => idx3 a0 a1 a2 a3 w
      rw [HZ.out] at ix
      clear hk
      by_cases hb : (3 : Int) = but
      · subst hb
        have hct : cntK a0 a1 a2 a3 s 3 (4) = C := by rw [← HC.out]; simp only [cntK]; have := hit_but (a := a3) (s := s) (rfl : (3 : Int) = 3); omega
        have HCT := hid hct; clear hct
        obtain ⟨z, hz⟩ : ∃ z, sdEq a3 s = z := ⟨_, rfl⟩
        have HZZ := hid hz; clear hz
        cases z
        all_goals
          go_wp2_with (refine wpList_eql_agg rfl _ _ _ _ _ _ _ rfl rfl rfl (by kernel_rfl) (eql_sd _ a3 s) ?_; rw [HZZ.out])
          go_roundw
          case rel => exact ⟨4, by omega, by rw [HCT.out], rfl, HBB.out.alloc _, HF.out.alloc _⟩
          case measure => simp [intOf]
      · have z1 : ((3 : Int) == but) = false := beq_eq_false_iff_ne.2 hb
        have z2 : ((3 : Int) != but) = true := by rw [bne, z1]; rfl
        obtain ⟨z, hz⟩ : ∃ z, sdEq a3 s = z := ⟨_, rfl⟩
        cases z
        · have hct : cntK a0 a1 a2 a3 s but (4) = C := by rw [← HC.out]; simp only [cntK]; have := hit_no (i := 3) (but := but) hz; omega
          have HCT := hid hct; clear hct
          have HZZ := hid hz; clear hz hb
          go_wp2_with (refine wpList_eql_agg rfl _ _ _ _ _ _ _ rfl rfl rfl (by kernel_rfl) (eql_sd _ a3 s) ?_; rw [HZZ.out])
          go_roundw
          case rel => exact ⟨4, by omega, by rw [HCT.out], rfl, HBB.out.alloc _, HF.out.alloc _⟩
          case measure => simp [intOf]
        · have hct : cntK a0 a1 a2 a3 s but (4) = C + 1 := by rw [← HC.out]; simp only [cntK]; have := hit_yes (i := 3) hz hb; omega
          have HCT := hid hct; clear hct
          have HZZ := hid hz; clear hz hb
          go_wp2_with (refine wpList_eql_agg rfl _ _ _ _ _ _ _ rfl rfl rfl (by kernel_rfl) (eql_sd _ a3 s) ?_; rw [HZZ.out])
          go_roundw
          case rel => exact ⟨4, by omega, by rw [HCT.out], rfl, HBB.out.alloc _, HF.out.alloc _⟩
          case measure => simp [intOf]
    · go_wp2
      go_ret
      exact ⟨ret_int (by rw [← HC.out, ← HN.out]; rfl), HF.out⟩
end Go.Proofs.Ytijomhinfcahpaa
