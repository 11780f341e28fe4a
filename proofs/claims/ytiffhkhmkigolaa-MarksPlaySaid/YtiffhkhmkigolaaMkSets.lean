/- Marks: sets. -/
import Derived.Test.YtiffhkhmkigolaaMkDef
import Derived.Test.YtiffhkhmkigolaaHeld
import Derived.Deep.MidRow
namespace Go.Proofs.Ytiffhkhmkigolaa
open Go.RowKit Go.ChangeShapes
set_option linter.unusedVariables false
set_option linter.unusedSimpArgs false
set_option maxRecDepth 100000
theorem eqB4 (w : World) (a b c d : Bool) : (binOp .eql TB4 (.agg #[.bool a, .bool b, .bool c, .bool d]) (.agg #[.bool false, .bool false, .bool false, .bool false])).run Try.prog w = .ok (.bool (!(a || (b || (c || d))))) w := by
  cases a <;> cases b <;> cases c <;> cases d <;> kernel_rfl
section
variable {w : World} {o : Oper} {a : Act} {K : Act → World → Prop} {Q : Exit → Act → World → Prop} {k e t : TypeId} {b n : Nat} {f : Value → Option Value}
/-- m[key] = val, at the operation itself. -/
theorem wp_mp_upd (m x v : Operand) (hop : o.op = Op.mapUpdate t m x v) (h : IsMp k w b n f) (K0 : Go.Maps.Keyed Try.prog k) (ht : Try.prog.underlying t = some (.map k e)) (hn : n < 9223372036854775807) (key val : Value) (kl : Lit) (hkey : keyOf Try.prog k key = some kl) {f' : Value → Option Value} (hu : IsUpd f f' key (some val))
    (hm : a.eval m = .map (some b)) (hx : a.eval x = key) (hv : a.eval v = val)
    (hK : ∀ w', IsMp k w' b (if f key = none then n + 1 else n) f' → Frm (· = b) w w' → w'.heap.size = w.heap.size → K (a.put o.dst undef) w') :
    o.wp Try.prog a w K Q := by
  obtain ⟨w', hrun, r1, r2, r3⟩ := h.upd K0 ht hn hkey hu
  unfold Oper.wp
  simp [execOp, hop, hm, hx, hv, hrun, Result.andThen]
  exact hK w' r1 r2 r3
/-- delete(m, key), at the operation itself. -/
theorem wp_mp_del (m x : Operand) (hop : o.op = Op.call { callee := Callee.builtin Builtin.delete, args := #[m, x], argTypes := #[t, k] }) (h : IsMp k w b n f) (K0 : Go.Maps.Keyed Try.prog k) (ht : Try.prog.underlying t = some (.map k e)) (key : Value) (kl : Lit) (hkey : keyOf Try.prog k key = some kl) {f' : Value → Option Value} (hu : IsUpd f f' key none)
    (hm : a.eval m = .map (some b)) (hx : a.eval x = key)
    (hK : ∀ w', IsMp k w' b (if f key = none then n else n - 1) f' → Frm (· = b) w w' → w'.heap.size = w.heap.size → K (a.put o.dst (.tuple #[])) w') :
    o.wp Try.prog a w K Q := by
  obtain ⟨w', hrun, r1, r2, r3⟩ := h.del K0 ht hkey hu o.type
  unfold Oper.wp
  simp [execOp, hop, resolve, invoke, builtin, hm, hx, hrun, Result.andThen]
  exact hK w' r1 r2 r3
end
theorem bits_set (σ : Has) (m : Mk) (n : Nat) (hn : n < 4) (b : Bool) : (bits (σ m)).set n (.bool b) = bits (updM σ m n b m) := by
  rcases (show n = 0 ∨ n = 1 ∨ n = 2 ∨ n = 3 by omega) with rfl | rfl | rfl | rfl <;> simp [bits, updM_at]
theorem IsUpd.uniq {f f1 f2 : Value → Option Value} {key : Value} {r : Option Value} (h : IsUpd f f1 key r) (h' : IsUpd f f2 key r) : f1 = f2 := by
  funext x
  by_cases e : x = key
  · rw [e, h.eq, h'.eq]
  · rw [h.ne x e, h'.ne x e]
theorem bits_letters (f : Nat → Bool) : ∃ p q r s, bits f = [.bool p, .bool q, .bool r, .bool s] ∧ b4V f = .agg #[.bool p, .bool q, .bool r, .bool s] ∧ anyB f = (p || (q || (r || s))) := ⟨_, _, _, _, rfl, rfl, rfl⟩
set_option maxHeartbeats 16000000 in
theorem sets_calls {w : World} {lb mb N : Nat} {σ : Has} (h : IsMk w lb mb N σ) (hN : N ≤ 100000) (m : Mk) (hm : okK m) (n : Nat) (F : Int) (hF : F = n) (hn : n < 4) (b : Bool) :
    Calls Try.prog 26 #[.pointer (some ⟨lb, 0, none⟩), .agg #[.int .u32 m.1, .int .u64 m.2], .int .u8 F, .bool b] w fun e w' => e = .returned (.tuple #[]) ∧ IsMk w' lb mb (N + 1) (updM σ m n b) ∧ Frm (· = mb) w w' := by
  subst hF
  have hset := bits_set σ m n hn b
  obtain ⟨o0, o1, o2, o3, ho1, ho2, _⟩ := bits_letters (σ m)
  obtain ⟨p, q, r, s, hp1, hp2, hp3⟩ := bits_letters (updM σ m n b m)
  rw [ho1, hp1] at hset
  obtain ⟨w1, hw1⟩ : ∃ w1, w.alloc (.cells #[.int .u32 m.1, .int .u64 m.2] TMk) = w1 := ⟨_, rfl⟩
  have hf1 : Frm (fun _ => False) w w1 := hw1 ▸ mbox w _
  have hk1 : Blk w1 w.heap.size (mkC m) TMk := hw1 ▸ Blk.new w (mkC m) TMk
  have HE := hid (h.quiet hf1); have HF := hid hf1; have HK := hid hk1
  obtain ⟨kb, hkb⟩ : ∃ kb, w.heap.size = kb := ⟨_, rfl⟩
  have HKB := hid (show ¬ kb = lb by have := h.lt; omega)
  have HKM := hid (show ¬ kb = mb by have := h.lt; omega)
  have HLM := hid h.lm
  have HW1 := hid hw1
  have HMV := hid (hp2 : b4V (updM σ m n b m) = _)
  have HAN := hid hp3
  have HSET := hid hset
  rw [hkb] at HK
  have HM := hid hm; have HN := hid hN; have HO := hid ho2; have HN4 := hid hn
  have hni : (n : Int) < 4 := by omega
  have hn0 : (0 : Int) ≤ (n : Int) := by omega
  have heq := fun w => eqB4 w p q r s
  obtain ⟨ms, mr⟩ := m
  obtain ⟨kl, hkl⟩ := keyMk (ms, mr) hm
  have HKL := hid hkl
  clear h hm hN hn hf1 hk1 hw1 hset ho1 ho2 hp1 hp2 hp3 hkl
  go_enter Try.func26, Try.ntmps26
  go_wp2_with fail
  rw [HW1.out]
  clear HW1 hkb
  have q1 := HE.out.cell
  have k0 := HK.out.cell 0; have k1 := HK.out.cell 1
  simp only [mkC, List.getElem?_cons_succ, List.getElem?_cons_zero] at k0 k1
  have q2 := (HE.out.quiet (frm_drew w1)).look (ms, mr) HM.out
  rw [HO.out] at q2
  have q3 := fun o => (HE.out.quiet ((mbox w1 o).trans (frm_drew _))).look (ms, mr) HM.out
  rw [HO.out] at q3
  simp only [mkV] at q2 q3
  have hkl := HK.out.lt; have hll := HE.out.lt.1
  go_region
  clear q1 q2 q3 k0 k1
  have HBB := hid (Blk.new w1 [.bool o0, .bool o1, .bool o2, .bool o3] TB4)
  have hf2 : Frm (fun _ => False) w1 ((w1.alloc (.cells #[.bool o0, .bool o1, .bool o2, .bool o3] TB4)).drew) := (mbox w1 _).trans (frm_drew _)
  have HB2 := hid (HBB.out.frm (frm_drew _) (fun h => h))
  have HE2 := hid (HE.out.quiet hf2); have HK2 := hid (HK.out.frm hf2 (fun h => h)); have HF2 := hid (HF.out.trans hf2)
  have HBL := hid (show ¬ w1.heap.size = lb ∧ ¬ w1.heap.size = mb ∧ ¬ w1.heap.size = kb by have := HE.out.lt; omega)
  have HWB := hid HF.out.size
  obtain ⟨w2, hw2⟩ : ∃ w2, (w1.alloc (.cells #[.bool o0, .bool o1, .bool o2, .bool o3] TB4)).drew = w2 := ⟨_, rfl⟩
  rw [hw2]
  rw [hw2] at HB2 HE2 HK2 HF2
  obtain ⟨bb, hbb⟩ : ∃ bb, w1.heap.size = bb := ⟨_, rfl⟩
  rw [hbb]
  rw [hbb] at HB2 HBL HWB
  clear hw2 hbb hf2 HBB HE HK HF hkl hll
  obtain ⟨vn, hvn⟩ : ∃ vn, [Value.bool o0, .bool o1, .bool o2, .bool o3][n]? = some vn := ⟨_, List.getElem?_eq_getElem (by have := HN4.out; simpa using this)⟩
  have hcn := (HB2.out.cell n).trans hvn
  have hzn := HB2.out.free n
  go_wp2_with fail
  clear hcn hzn hvn
  have hf3 : Frm (· = bb) w2 (w2.setCell ⟨bb, n, none⟩ (.bool b)) := (Frm.refl _ _).setCell _ _ (.inr rfl)
  have hb3 := HB2.out.setCell n (.bool b)
  rw [HSET.out] at hb3
  have HB3 := hid (hb3.frm (frm_drew _) (fun h => h)); have HE3 := hid ((HE2.out.frm hf3 (fun k hk e => by rcases hk with hk | hk <;> have := HBL.out <;> omega)).quiet (frm_drew _)); have HK3 := hid ((HK2.out.frm hf3 (fun e => HBL.out.2.2 e.symm)).frm (frm_drew _) (fun h => h))
  have HF3 := hid ((HF2.out.trans' hf3 (fun i hi e => by have := HWB.out; omega)).drew)
  obtain ⟨w3, hw3⟩ : ∃ w3, w2.setCell ⟨bb, n, none⟩ (.bool b) = w3 := ⟨_, rfl⟩
  rw [hw3]
  rw [hw3] at HB3 HE3 HK3 HF3
  clear hw3 hf3 hb3 HB2 HE2 HK2 HF2 HO HSET hni hn0
  have q1 := HE3.out.cell; have k0 := HK3.out.cell 0; have k1 := HK3.out.cell 1
  have b0 := HB3.out.cell 0; have b1 := HB3.out.cell 1; have b2 := HB3.out.cell 2; have b3 := HB3.out.cell 3
  simp only [mkC, List.getElem?_cons_succ, List.getElem?_cons_zero] at k0 k1 b0 b1 b2 b3
  refine wp_region_held_drew (S := fun wx => wx.cell? ⟨lb, 0, none⟩ = some (.map (some mb)) ∧ wx.cell? ⟨kb, 0, none⟩ = some (.int .u32 ms) ∧ wx.cell? ⟨kb, 1, none⟩ = some (.int .u64 mr) ∧ wx.cell? ⟨bb, 0, none⟩ = some (.bool p) ∧ wx.cell? ⟨bb, 1, none⟩ = some (.bool q) ∧ wx.cell? ⟨bb, 2, none⟩ = some (.bool r) ∧ wx.cell? ⟨bb, 3, none⟩ = some (.bool s)) (by kernel_rfl) ?_ (fun hHeld => ?_)
  · exact ⟨q1, k0, k1, b0, b1, b2, b3⟩
  obtain ⟨n3, hn3, hm3⟩ := HE3.out.map
  obtain ⟨f1, hf1⟩ := upd_ex (fM σ) (mkV (ms, mr)) (some (.agg #[.bool p, .bool q, .bool r, .bool s]))
  have HN3 := hid hn3; have HM3 := hid (show IsMp TMk w3.drew mb n3 (fM σ) from hm3); have HU := hid hf1
  clear hn3 hm3 hf1 b0 b1 b2 b3 k0 k1 q1
  refine wpAnyH_take (i := 0) (oi := ⟨some 18, _, _, _, _, _⟩) (v := ?v1) rfl (by kernel_rfl) (by kernel_rfl) (by kernel_rfl) (fun _ _ _ h => h) (Or.inl ⟨by rfl, ?y1⟩) (by assumption) ?r1
  case y1 => (intro wx hSx; (try dsimp only at hSx); go_simp; (try with_reducible rfl))
  try simp only [Act.put, List.setIfInBounds_toArray, List.set_cons_zero, List.set_cons_succ]
  refine wpAnyH_take (i := 1) (oi := ⟨some 19, _, _, _, _, _⟩) (v := ?v2) rfl (by kernel_rfl) (by kernel_rfl) (by kernel_rfl) (fun _ _ _ h => h) (Or.inl ⟨by rfl, ?y2⟩) (by assumption) ?r2
  case y2 => (intro wx hSx; (try dsimp only at hSx); go_simp; (try with_reducible rfl))
  try simp only [Act.put, List.setIfInBounds_toArray, List.set_cons_zero, List.set_cons_succ]
  refine wpAnyH_take (i := 2) (oi := ⟨some 20, _, _, _, _, _⟩) (v := ?v3) rfl (by kernel_rfl) (by kernel_rfl) (by kernel_rfl) (fun _ _ _ h => h) (Or.inl ⟨by rfl, ?y3⟩) (by assumption) ?r3
  case y3 => (intro wx hSx; (try dsimp only at hSx); go_simp; (try with_reducible rfl))
  try simp only [Act.put, List.setIfInBounds_toArray, List.set_cons_zero, List.set_cons_succ]
  refine wpAnyH_take (i := 3) (oi := ⟨some 21, _, _, _, _, _⟩) (v := ?v4) rfl (by kernel_rfl) (by kernel_rfl) (by kernel_rfl) (fun _ _ _ h => h) (Or.inl ⟨by rfl, ?y4⟩) (by assumption) ?r4
  case y4 => (intro wx hSx; (try dsimp only at hSx); go_simp; (try with_reducible rfl))
  try simp only [Act.put, List.setIfInBounds_toArray, List.set_cons_zero, List.set_cons_succ]
  refine wpAnyH_take (i := 4) (oi := ⟨some 22, _, _, _, _, _⟩) (v := ?v5) rfl (by kernel_rfl) (by kernel_rfl) (by kernel_rfl) (fun _ _ _ h => h) (Or.inl ⟨by rfl, ?y5⟩) (by assumption) ?r5
  case y5 => (intro wx hSx; (try dsimp only at hSx); go_simp; (try with_reducible rfl))
  try simp only [Act.put, List.setIfInBounds_toArray, List.set_cons_zero, List.set_cons_succ]
  refine wpAnyH_take (i := 5) (oi := ⟨some 23, _, _, _, _, _⟩) (v := ?v6) rfl (by kernel_rfl) (by kernel_rfl) (by kernel_rfl) (fun _ _ _ h => h) (Or.inl ⟨by rfl, ?y6⟩) (by assumption) ?r6
  case y6 => (intro wx hSx; (try dsimp only at hSx); go_simp; (try with_reducible rfl))
  try simp only [Act.put, List.setIfInBounds_toArray, List.set_cons_zero, List.set_cons_succ]
  refine wpAnyH_ready (rs := [6]) (by kernel_rfl) (by simp) ?_
  refine AllReadyH.cons (o := ⟨none, _, _, _, _, _⟩) rfl (fun K hK => ?_) AllReadyH.nil
  refine wp_mp_upd (.tmp 21) (.tmp 22) (.tmp 23) rfl HM3.out keyedMk u_mm (by have := HN.out; have := HN3.out; omega) (mkV (ms, mr)) _ kl HKL.out HU.out rfl rfl rfl ?_
  intro w4 hm4 hf4 hs4
  have HM4 := hid hm4; have HE4 := hid (HE3.out.blk.frm hf4 (fun e => HLM.out e.symm)); have HK4 := hid (HK3.out.frm hf4 (fun e => HKM.out e)); have HB4 := hid (HB3.out.frm hf4 (fun e => HBL.out.2.1 e)); have HF4 := hid (HF3.out.mono (S' := (· = mb)) (fun _ _ h => h.elim) |>.trans hf4)
  clear hm4 hf4 hs4
  refine hK.out _ _ ?_ (fun hHeld2 => ?_)
  · ((try dsimp only); (exact ⟨HE4.out.cell 0, HK4.out.cell 0, HK4.out.cell 1, HB4.out.cell 0, HB4.out.cell 1, HB4.out.cell 2, HB4.out.cell 3⟩))
  clear hK K hHeld; have hHeld := hHeld2; clear hHeld2
  try simp only [Act.put, List.setIfInBounds_toArray, List.set_cons_zero, List.set_cons_succ]
  refine wpAnyH_done (by kernel_rfl) ?_ _
  clear HM3 HE3 HK3 HB3 HF3 hHeld
  have q1 := HE4.out.cell 0; have k0 := HK4.out.cell 0; have k1 := HK4.out.cell 1
  have b0 := HB4.out.cell 0; have b1 := HB4.out.cell 1; have b2 := HB4.out.cell 2; have b3 := HB4.out.cell 3
  simp only [mkC, List.getElem?_cons_succ, List.getElem?_cons_zero] at q1 k0 k1 b0 b1 b2 b3
  cases hz : (p || (q || (r || s)))
  · rw [hz] at heq HAN
    have HUD := hid (fM_del (has := b) HAN.out HU.out)
    clear hz
    go_wp2_with fail
    have HM5 := hid (HM4.out.frm (frm_drew w4) (fun h => h)); have HE5 := hid (show Blk w4.drew lb [.map (some mb)] TMs from HE4.out); have HK5 := hid (show Blk w4.drew kb (mkC (ms, mr)) TMk from HK4.out); have HF5 := hid HF4.out.drew
    refine wp_region_held_drew (S := fun wx => wx.cell? ⟨lb, 0, none⟩ = some (.map (some mb)) ∧ wx.cell? ⟨kb, 0, none⟩ = some (.int .u32 ms) ∧ wx.cell? ⟨kb, 1, none⟩ = some (.int .u64 mr)) (by kernel_rfl) ?_ (fun hHeld => ?_)
    · exact ⟨q1, k0, k1⟩
    clear b0 b1 b2 b3 k0 k1 q1 HM4 HE4 HK4 HF4 HB4
    refine wpAnyH_take (i := 0) (oi := ⟨some 27, _, _, _, _, _⟩) (v := ?v7) rfl (by kernel_rfl) (by kernel_rfl) (by kernel_rfl) (fun _ _ _ h => h) (Or.inl ⟨by rfl, ?y7⟩) (by assumption) ?r7
    case y7 => (intro wx hSx; (try dsimp only at hSx); go_simp; (try with_reducible rfl))
    try simp only [Act.put, List.setIfInBounds_toArray, List.set_cons_zero, List.set_cons_succ]
    refine wpAnyH_take (i := 1) (oi := ⟨some 28, _, _, _, _, _⟩) (v := ?v8) rfl (by kernel_rfl) (by kernel_rfl) (by kernel_rfl) (fun _ _ _ h => h) (Or.inl ⟨by rfl, ?y8⟩) (by assumption) ?r8
    case y8 => (intro wx hSx; (try dsimp only at hSx); go_simp; (try with_reducible rfl))
    try simp only [Act.put, List.setIfInBounds_toArray, List.set_cons_zero, List.set_cons_succ]
    refine wpAnyH_take (i := 2) (oi := ⟨some 29, _, _, _, _, _⟩) (v := ?v9) rfl (by kernel_rfl) (by kernel_rfl) (by kernel_rfl) (fun _ _ _ h => h) (Or.inl ⟨by rfl, ?y9⟩) (by assumption) ?r9
    case y9 => (intro wx hSx; (try dsimp only at hSx); go_simp; (try with_reducible rfl))
    try simp only [Act.put, List.setIfInBounds_toArray, List.set_cons_zero, List.set_cons_succ]
    refine wpAnyH_take (i := 3) (oi := ⟨some 30, _, _, _, _, _⟩) (v := ?v10) rfl (by kernel_rfl) (by kernel_rfl) (by kernel_rfl) (fun _ _ _ h => h) (Or.inl ⟨by rfl, ?y10⟩) (by assumption) ?r10
    case y10 => (intro wx hSx; (try dsimp only at hSx); go_simp; (try with_reducible rfl))
    try simp only [Act.put, List.setIfInBounds_toArray, List.set_cons_zero, List.set_cons_succ]
    refine wpAnyH_take (i := 4) (oi := ⟨some 31, _, _, _, _, _⟩) (v := ?v11) rfl (by kernel_rfl) (by kernel_rfl) (by kernel_rfl) (fun _ _ _ h => h) (Or.inl ⟨by rfl, ?y11⟩) (by assumption) ?r11
    case y11 => (intro wx hSx; (try dsimp only at hSx); go_simp; (try with_reducible rfl))
    try simp only [Act.put, List.setIfInBounds_toArray, List.set_cons_zero, List.set_cons_succ]
    refine wpAnyH_ready (rs := [5]) (by kernel_rfl) (by simp) ?_
    refine AllReadyH.cons (o := ⟨none, _, _, _, _, _⟩) rfl (fun K hK => ?_) AllReadyH.nil
    refine wp_mp_del (.tmp 30) (.tmp 31) rfl HM5.out keyedMk u_mm (mkV (ms, mr)) kl HKL.out HUD.out rfl rfl ?_
    intro w6 hm6 hf6 hs6
    have HM6 := hid hm6; have HE6 := hid (HE5.out.frm hf6 (fun e => HLM.out e.symm)); have HK6 := hid (HK5.out.frm hf6 (fun e => HKM.out e)); have HF6 := hid (HF5.out.trans hf6)
    clear hm6 hf6 hs6
    refine hK.out _ _ ?_ (fun hHeld2 => ?_)
    · ((try dsimp only); (exact ⟨HE6.out.cell 0, HK6.out.cell 0, HK6.out.cell 1⟩))
    clear hK K hHeld; have hHeld := hHeld2; clear hHeld2
    try simp only [Act.put, List.setIfInBounds_toArray, List.set_cons_zero, List.set_cons_succ]
    refine wpAnyH_done (by kernel_rfl) ?_ _
    go_wp2
    go_end0
    refine ⟨rfl, ⟨HE6.out, ⟨_, ?_, HM6.out⟩⟩, HF6.out⟩
    have := HN3.out
    split <;> split <;> omega
  · rw [hz] at heq HAN
    have HUF := hid (HU.out.uniq (HMV.out ▸ fM_upd σ (ms, mr) n b HAN.out))
    clear hz
    go_wp2
    go_end0
    refine ⟨rfl, ⟨HE4.out, ⟨_, ?_, HUF.out ▸ HM4.out⟩⟩, HF4.out⟩
    have := HN3.out
    split <;> omega
end Go.Proofs.Ytiffhkhmkigolaa
