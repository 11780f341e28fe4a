/- Marks: Best. -/
import Derived.Test.YtiffhkhmkigolaaMkAdd
namespace Go.Proofs.Ytiffhkhmkigolaa
open Go.RowKit Go.ChangeShapes
set_option linter.unusedVariables false
set_option linter.unusedSimpArgs false
set_option maxRecDepth 100000
theorem results_cell2 {fn : Func} {p q : Tmp} {ty : TypeId} (h : fn.results = #[.cell p ty, .tmp q]) (tmps : Array Value) (w : World) (g T : Nat) (cs : List Value) (fs : Array Field) (v : Value) (hp : tmps.getD p undef = .pointer (some ⟨g, 0, none⟩)) (hq : tmps.getD q undef = v) (hb : Blk w g cs T)
    (hu : Try.prog.underlying ty = some (.struct fs)) (hi : (Try.prog.info? ty).map (·.size) = some cs.length) : (results fn tmps).run Try.prog w = .ok (.tuple #[.agg cs.toArray, v]) w := by
  have hp' : tmps[p]?.getD undef = .pointer (some ⟨g, 0, none⟩) := by simpa using hp
  have hq' : tmps[q]?.getD undef = v := by simpa using hq
  simp [results, h, hp', hq', asAddr, run_loadVar_row w g T ty cs.toArray (0, 0) (.struct fs) hb hu rfl (by simpa using hi)]
theorem eqMk (w : World) (a b c d : Int) (z : Bool) (hz : (a == c && b == d) = z) : (binOp .eql TMk (.agg #[.int .u32 a, .int .u64 b]) (.agg #[.int .u32 c, .int .u64 d])).run Try.prog w = .ok (.bool z) w := by
  subst hz
  go_simp
  repeat' split
  all_goals simp_all
/-- A mark that may be told. -/
def okB (σ : Has) (least k but : Int) (m : Mk) : Prop := anyB (σ m) = true ∧ least ≤ m.1 ∧ k ≤ cntB (σ m) but
def better (m b : Mk) : Prop := b.1 < m.1 ∨ m.1 = b.1 ∧ m.2 < b.2
/-- What is told. -/
structure BestR (σ : Has) (least k but : Int) (fd : Bool) (b : Mk) : Prop where
  no : fd = false → b = (0, 0) ∧ ∀ m, ¬ okB σ least k but m
  yes : fd = true → okB σ least k but b ∧ ∀ m, okB σ least k but m → ¬ better m b
structure BestI (σ : Has) (least k but : Int) (left : Value → Prop) (fd : Bool) (b : Mk) : Prop where
  no : fd = false → b = (0, 0) ∧ ∀ m, okB σ least k but m → left (mkV m)
  yes : fd = true → okB σ least k but b ∧ ∀ m, okB σ least k but m → ¬ left (mkV m) → ¬ better m b
section
variable {σ : Has} {least k but : Int} {left : Value → Prop} {fd : Bool} {b x : Mk}
theorem BestI.zero : BestI σ least k but (fun key => fM σ key ≠ none) false (0, 0) :=
  ⟨fun _ => ⟨rfl, fun m h => by rw [fM_at, if_pos h.1]; simp⟩, fun h => absurd h (by decide)⟩
theorem BestI.done (h : BestI σ least k but left fd b) (hl : ∀ key, ¬ left key) : BestR σ least k but fd b :=
  ⟨fun e => ⟨(h.no e).1, fun m hm => hl _ ((h.no e).2 m hm)⟩, fun e => ⟨(h.yes e).1, fun m hm => (h.yes e).2 m hm (hl _)⟩⟩
/-- One that may not be told is passed. -/
theorem BestI.pass (h : BestI σ least k but left fd b) (hx : ¬ okB σ least k but x) : BestI σ least k but (strike left (mkV x)) fd b :=
  ⟨fun e => ⟨(h.no e).1, fun m hm => ⟨(h.no e).2 m hm, fun e2 => hx (mkV_inj e2 ▸ hm)⟩⟩, fun e => ⟨(h.yes e).1, fun m hm hs => by
    by_cases e2 : m = x
    · exact absurd (e2 ▸ hm) hx
    · exact (h.yes e).2 m hm (fun hl => hs ⟨hl, fun e3 => e2 (mkV_inj e3)⟩)⟩⟩
/-- One that is no better is passed. -/
theorem BestI.worse (h : BestI σ least k but left true b) (hx : ¬ better x b) : BestI σ least k but (strike left (mkV x)) true b :=
  ⟨fun e => absurd e (by decide), fun e => ⟨(h.yes e).1, fun m hm hs => by
    by_cases e2 : m = x
    · rw [e2]; exact hx
    · exact (h.yes e).2 m hm (fun hl => hs ⟨hl, fun e3 => e2 (mkV_inj e3)⟩)⟩⟩
/-- The first one is taken. -/
theorem BestI.first (h : BestI σ least k but left false b) (hx : okB σ least k but x) : BestI σ least k but (strike left (mkV x)) true x :=
  ⟨fun e => absurd e (by decide), fun _ => ⟨hx, fun m hm hs => by
    have hl := (h.no rfl).2 m hm
    by_cases e2 : m = x
    · rw [e2]; unfold better; omega
    · exact absurd ⟨hl, fun e3 => e2 (mkV_inj e3)⟩ hs⟩⟩
/-- A better one is taken. -/
theorem BestI.take (h : BestI σ least k but left true b) (hx : okB σ least k but x) (hb : better x b) : BestI σ least k but (strike left (mkV x)) true x :=
  ⟨fun e => absurd e (by decide), fun e => ⟨hx, fun m hm hs => by
    by_cases e2 : m = x
    · rw [e2]; unfold better; omega
    · have := (h.yes e).2 m hm (fun hl => hs ⟨hl, fun e3 => e2 (mkV_inj e3)⟩)
      unfold better at *; omega⟩⟩
end
theorem rng_ne {w : World} {mb r n cnt : Nat} {f : Value → Option Value} {left : Value → Prop} (h : Rng TMk w mb r n f left cnt) {b T : Nat} {cs : List Value} (hb : Blk w b cs T) : r ≠ b := by
  rintro rfl
  obtain ⟨es, clock, since, seen, c0, _, _, _, _, hr, _⟩ := h.ex
  unfold Blk at hb
  rw [hr] at hb
  cases hb
set_option maxHeartbeats 16000000 in
theorem MBest_calls {w : World} {lb mb N : Nat} {σ : Has} (h : IsMk w lb mb N σ) (hok : ∀ m, anyB (σ m) = true → okK m) (least many but : Int) (h1 : 1 ≤ many) :
    Calls Try.prog 10 #[.pointer (some ⟨lb, 0, none⟩), .int .u32 least, .int .i64 many, .int .i64 but] w fun e w' => ∃ (b : Mk) (fd : Bool), e = .returned (.tuple #[.agg #[.int .u32 b.1, .int .u64 b.2], .bool fd]) ∧ BestR σ least many but fd b ∧ Frm (fun _ => False) w w' := by
  have HE := hid h; have HOK := hid hok; have HLT := hid h.lt
  have hsz : ((w.alloc (.cells #[.int .u32 0, .int .u64 0] TMk)).alloc (.cells #[.int .u32 0, .int .u64 0] TMk)).heap.size = w.heap.size + 2 := by simp
  have HSZ := hid hsz
  have HRK := hid ((Blk.new w (mkC (0, 0)) TMk).frm (mbox _ (.cells #[.int .u32 0, .int .u64 0] TMk)) (fun h => h))
  have HBK := hid (show Blk ((w.alloc (.cells #[.int .u32 0, .int .u64 0] TMk)).alloc (.cells #[.int .u32 0, .int .u64 0] TMk)) (w.heap.size + 1) (mkC (0, 0)) TMk from blkM _ (0, 0) _ (by simp))
  have HF0 := hid ((mbox w (.cells #[.int .u32 0, .int .u64 0] TMk)).trans (mbox _ (.cells #[.int .u32 0, .int .u64 0] TMk)))
  have q0 := (h.quiet HF0.out).cell
  obtain ⟨n, hn, hm⟩ := (h.quiet HF0.out).map
  have HM := hid hm
  clear h hn hm hok hsz
  go_enter Try.func10, Try.ntmps10
  go_wp2_with (at_range; refine wpList_mp_range rfl _ rfl HM.out u_mm rfl ?_; intro w1 hrg hg1 hs1; (rw [HSZ.out] at hrg); (rw [HSZ.out]); have HRG := hid hrg; have HF1 := hid (HF0.out.trans hg1); have HB1 := hid (HBK.out.frm hg1 (fun h => h)); have HR1 := hid (HRK.out.frm hg1 (fun h => h)); clear hrg hg1 hs1)
  try go_frame
  clear HM HF0 HBK HRK q0
  obtain ⟨ib, hib⟩ : ∃ ib, w.heap.size + 2 = ib := ⟨_, rfl⟩
  obtain ⟨bk, hbk⟩ : ∃ bk, w.heap.size + 1 = bk := ⟨_, rfl⟩
  obtain ⟨rk, hrk⟩ : ∃ rk, w.heap.size = rk := ⟨_, rfl⟩
  have HRKW := hid (show w.heap.size ≤ rk from Nat.le_of_eq hrk)
  have HNE := hid (show ¬ bk = mb ∧ ¬ bk = ib ∧ ¬ bk = rk ∧ ¬ rk = bk ∧ w.heap.size ≤ bk ∧ w.heap.size ≤ ib by have := HLT.out.2; omega)
  rw [hib, hbk, hrk]
  rw [hib] at HRG
  rw [hbk] at HB1
  rw [hrk] at HR1
  clear hib hbk hrk HSZ
  go_loopw [11] (fun fv wr => ∃ (fd : Bool) (b : Mk) (left : Value → Prop) (cnt : Nat), fv = .bool fd ∧ Rng TMk wr mb ib n (fM σ) left cnt ∧ Blk wr bk (mkC b) TMk ∧ Blk wr rk (mkC (0, 0)) TMk ∧ BestI σ least many but left fd b ∧ Frm (fun _ => False) w wr) (fun _ wr => wr.rangeLeft mb ib)
  case atStart => exact ⟨false, (0, 0), _, n, rfl, HRG.out, HB1.out, HR1.out, BestI.zero, HF1.out⟩
  case round =>
    clear HRG HF1 HB1 HR1
    obtain ⟨fd, ⟨bs, br⟩, left, cnt, rfl, hrg, hb, hr, hp, hf⟩ := hrel
    have HRG := hid hrg; have HP := hid hp; have HF := hid hf; have HB := hid hb; have HR := hid hr
    have HRN := hid (rng_ne hrg hb); have HRN2 := hid (rng_ne hrg hr)
    clear hrg hp hf hb hr
    go_wp2_with (at_next; refine wpList_mp_next rfl _ rfl (fun x : KX => .agg #[.int .u32 x.s, .int .u64 x.r]) (fun y : BX => .agg #[.bool y.a, .bool y.b, .bool y.c, .bool y.d]) HRG.out (fun key v hf => fM_inv2 hf) rfl ?_ ?_)
    · intro hl0 hc0
      have HDN := hid (HP.out.done hl0)
      have b0 := HB.out.cell 0; have b1 := HB.out.cell 1; have r0 := HR.out.cell 0; have r1 := HR.out.cell 1
      simp only [mkC, List.getElem?_cons_succ, List.getElem?_cons_zero] at b0 b1 r0 r1
      have z0 := HR.out.free 0; have z1 := HR.out.free 1
      have hne := HNE.out.2.2.1; have hne2 := HNE.out.2.2.2.1
      clear hl0 hc0
      go_wp2
      (try simp only [Exit.inBlock, Exit.then])
      refine bodyPost_ret (results_cell2 rfl _ _ rk TMk [.int .u32 bs, .int .u64 br] _ (.bool fd) rfl rfl ((HR.out.setCell 0 (.int .u32 bs)).setCell 1 (.int .u64 br)) Try.underlying30 (by kernel_rfl)) rfl ⟨(bs, br), fd, rfl, HDN.out, (HF.out.setCell _ _ (.inl HRKW.out)).setCell _ _ (.inl HRKW.out)⟩
    · intro x y w2 cnt2 hlk hfk hrg2 hlt2 hg2 hs2 hen
      obtain ⟨xs, xr⟩ := x
      obtain ⟨y0, y1, y2, y3⟩ := y
      obtain ⟨m, hm1, hm2, hm3⟩ := fM_inv hfk
      obtain rfl : (xs, xr) = m := mkV_inj hm1
      have HAN := hid hm3
      have HKX := hid (HOK.out _ hm3)
      dsimp only at hen
      have HR2 := hid hrg2; have HLT2 := hid hlt2
      have HF2 := hid (HF.out.trans' hg2 (fun i hi e => by have := HNE.out.2.2.2.2.2; omega))
      have HB2 := hid (HB.out.frm hg2 (fun e => HRN.out e.symm)); have HK2 := hid (HR.out.frm hg2 (fun e => HRN2.out e.symm))
      clear hlk hfk hrg2 hlt2 hg2 hs2 hm1 hm2 hm3 HF HB HR
      have b0 := HB2.out.cell 0; have b1 := HB2.out.cell 1; have z0 := HB2.out.free 0; have z1 := HB2.out.free 1; have hbl := HB2.out.lt
      simp only [mkC, List.getElem?_cons_succ, List.getElem?_cons_zero] at b0 b1
      obtain ⟨C, hC⟩ : ∃ C, cntB (σ (xs, xr)) but = C := ⟨_, rfl⟩
      have HC := hid hC
      have hC0 : C ≤ 4 := by rw [← hC]; exact (pc_le _ _ 4).2
      have hC1 : 0 ≤ C := by rw [← hC]; exact (pc_le _ _ 4).1
      clear hC
      cases fd
      · by_cases h2 : xs < least
        · have HI := hid (HP.out.pass (x := (xs, xr)) (fun h => by have h3 : least ≤ xs := h.2.1; omega))
          go_wp2_with (go_at_call 11; (with_reducible refine (MCount_calls ((HE.out.quiet HF2.out).quiet (mbox _ _)) (xs, xr) HKX.out but C HC.out).mono ?_); rintro e w5 ⟨rfl, rfl⟩; skip)
          go_roundw
          case rel => exact ⟨_, (_, br), _, cnt2, rfl, HR2.out.frm (mbox _ _) (fun h => h) (fun h => h), HB2.out.frm (mbox _ _) (fun h => h), HK2.out.frm (mbox _ _) (fun h => h), HI.out, HF2.out.trans (mbox _ _)⟩
          case measure => rw [HRG.out.left_eq, (HR2.out.frm (mbox _ _) (fun h => h) (fun h => h)).left_eq]; exact HLT2.out
        · by_cases h3 : C < many
          · have HI := hid (HP.out.pass (x := (xs, xr)) (fun h => by have h4 := h.2.2; rw [HC.out] at h4; omega))
            go_wp2_with (go_at_call 11; (with_reducible refine (MCount_calls ((HE.out.quiet HF2.out).quiet (mbox _ _)) (xs, xr) HKX.out but C HC.out).mono ?_); rintro e w5 ⟨rfl, rfl⟩; skip)
            go_roundw
            case rel => exact ⟨_, (_, br), _, cnt2, rfl, HR2.out.frm (mbox _ _) (fun h => h) (fun h => h), HB2.out.frm (mbox _ _) (fun h => h), HK2.out.frm (mbox _ _) (fun h => h), HI.out, HF2.out.trans (mbox _ _)⟩
            case measure => rw [HRG.out.left_eq, (HR2.out.frm (mbox _ _) (fun h => h) (fun h => h)).left_eq]; exact HLT2.out
          · have HOB := hid (show okB σ least many but (xs, xr) from ⟨HAN.out, by show least ≤ xs; omega, by rw [HC.out]; omega⟩)
            have HI := hid (HP.out.first HOB.out)
            go_wp2_with (go_at_call 11; (with_reducible refine (MCount_calls ((HE.out.quiet HF2.out).quiet (mbox _ _)) (xs, xr) HKX.out but C HC.out).mono ?_); rintro e w5 ⟨rfl, rfl⟩; skip)
            go_roundw
            case rel => exact ⟨true, (xs, xr), _, cnt2, rfl, ((HR2.out.frm (((Frm.refl (· = bk) w2).setCell ⟨bk, 0, none⟩ (.int .u32 xs) (.inr rfl)).setCell ⟨bk, 1, none⟩ (.int .u64 xr) (.inr rfl)) (fun e => HNE.out.1 (Eq.symm e)) (fun e => HNE.out.2.1 (Eq.symm e))).frm (mbox _ _) (fun h => h) (fun h => h)), ((HB2.out.setCell 0 (.int .u32 xs)).setCell 1 (.int .u64 xr)).frm (mbox _ _) (fun h => h), (HK2.out.frm (((Frm.refl (· = bk) w2).setCell ⟨bk, 0, none⟩ (.int .u32 xs) (.inr rfl)).setCell ⟨bk, 1, none⟩ (.int .u64 xr) (.inr rfl)) (fun e => HNE.out.2.2.2.1 e)).frm (mbox _ _) (fun h => h), HI.out, ((HF2.out.setCell _ _ (.inl HNE.out.2.2.2.2.1)).setCell _ _ (.inl HNE.out.2.2.2.2.1)).trans (mbox _ _)⟩
            case measure => rw [HRG.out.left_eq, ((HR2.out.frm (((Frm.refl (· = bk) w2).setCell ⟨bk, 0, none⟩ (.int .u32 xs) (.inr rfl)).setCell ⟨bk, 1, none⟩ (.int .u64 xr) (.inr rfl)) (fun e => HNE.out.1 (Eq.symm e)) (fun e => HNE.out.2.1 (Eq.symm e))).frm (mbox _ _) (fun h => h) (fun h => h)).left_eq]; exact HLT2.out
      · obtain ⟨z, hz⟩ : ∃ z, (xs == bs && xr == br) = z := ⟨_, rfl⟩
        have heq := fun w => eqMk w xs xr bs br z hz
        have HZ := hid hz
        clear hz
        cases z
        · have HZN := hid (show ¬ ((xs, xr) : Mk) = (bs, br) from fun e => by injection e with e1 e2; have := HZ.out; rw [e1, e2, beq_self_eq_true, beq_self_eq_true] at this; exact absurd this (by decide))
          by_cases h2 : xs < least
          · have HI := hid (HP.out.pass (x := (xs, xr)) (fun h => by have h3 : least ≤ xs := h.2.1; omega))
            go_wp2_with (go_at_call 11; (with_reducible refine (MCount_calls ((HE.out.quiet HF2.out).quiet (mbox _ _)) (xs, xr) HKX.out but C HC.out).mono ?_); rintro e w5 ⟨rfl, rfl⟩; skip)
            go_roundw
            case rel => exact ⟨_, (_, br), _, cnt2, rfl, HR2.out.frm (mbox _ _) (fun h => h) (fun h => h), HB2.out.frm (mbox _ _) (fun h => h), HK2.out.frm (mbox _ _) (fun h => h), HI.out, HF2.out.trans (mbox _ _)⟩
            case measure => rw [HRG.out.left_eq, (HR2.out.frm (mbox _ _) (fun h => h) (fun h => h)).left_eq]; exact HLT2.out
          · by_cases h3 : C < many
            · have HI := hid (HP.out.pass (x := (xs, xr)) (fun h => by have h4 := h.2.2; rw [HC.out] at h4; omega))
              go_wp2_with (go_at_call 11; (with_reducible refine (MCount_calls ((HE.out.quiet HF2.out).quiet (mbox _ _)) (xs, xr) HKX.out but C HC.out).mono ?_); rintro e w5 ⟨rfl, rfl⟩; skip)
              go_roundw
              case rel => exact ⟨_, (_, br), _, cnt2, rfl, HR2.out.frm (mbox _ _) (fun h => h) (fun h => h), HB2.out.frm (mbox _ _) (fun h => h), HK2.out.frm (mbox _ _) (fun h => h), HI.out, HF2.out.trans (mbox _ _)⟩
              case measure => rw [HRG.out.left_eq, (HR2.out.frm (mbox _ _) (fun h => h) (fun h => h)).left_eq]; exact HLT2.out
            · have HOB := hid (show okB σ least many but (xs, xr) from ⟨HAN.out, by show least ≤ xs; omega, by rw [HC.out]; omega⟩)
              by_cases h4 : bs < xs
              · have HI := hid (HP.out.take HOB.out (.inl h4))
                go_wp2_with (go_at_call 11; (with_reducible refine (MCount_calls ((HE.out.quiet HF2.out).quiet (mbox _ _)) (xs, xr) HKX.out but C HC.out).mono ?_); rintro e w5 ⟨rfl, rfl⟩; skip)
                go_roundw
                case rel => exact ⟨true, (xs, xr), _, cnt2, rfl, ((HR2.out.frm (((Frm.refl (· = bk) w2).setCell ⟨bk, 0, none⟩ (.int .u32 xs) (.inr rfl)).setCell ⟨bk, 1, none⟩ (.int .u64 xr) (.inr rfl)) (fun e => HNE.out.1 (Eq.symm e)) (fun e => HNE.out.2.1 (Eq.symm e))).frm (mbox _ _) (fun h => h) (fun h => h)), ((HB2.out.setCell 0 (.int .u32 xs)).setCell 1 (.int .u64 xr)).frm (mbox _ _) (fun h => h), (HK2.out.frm (((Frm.refl (· = bk) w2).setCell ⟨bk, 0, none⟩ (.int .u32 xs) (.inr rfl)).setCell ⟨bk, 1, none⟩ (.int .u64 xr) (.inr rfl)) (fun e => HNE.out.2.2.2.1 e)).frm (mbox _ _) (fun h => h), HI.out, ((HF2.out.setCell _ _ (.inl HNE.out.2.2.2.2.1)).setCell _ _ (.inl HNE.out.2.2.2.2.1)).trans (mbox _ _)⟩
                case measure => rw [HRG.out.left_eq, ((HR2.out.frm (((Frm.refl (· = bk) w2).setCell ⟨bk, 0, none⟩ (.int .u32 xs) (.inr rfl)).setCell ⟨bk, 1, none⟩ (.int .u64 xr) (.inr rfl)) (fun e => HNE.out.1 (Eq.symm e)) (fun e => HNE.out.2.1 (Eq.symm e))).frm (mbox _ _) (fun h => h) (fun h => h)).left_eq]; exact HLT2.out
              · by_cases h5 : xs = bs
                · subst h5
                  by_cases h6 : xr < br
                  · have HI := hid (HP.out.take HOB.out (.inr ⟨rfl, h6⟩))
                    go_wp2_with (go_at_call 11; (with_reducible refine (MCount_calls ((HE.out.quiet HF2.out).quiet (mbox _ _)) (xs, xr) HKX.out but C HC.out).mono ?_); rintro e w5 ⟨rfl, rfl⟩; skip)
                    go_roundw
                    case rel => exact ⟨true, (xs, xr), _, cnt2, rfl, ((HR2.out.frm (((Frm.refl (· = bk) w2).setCell ⟨bk, 0, none⟩ (.int .u32 xs) (.inr rfl)).setCell ⟨bk, 1, none⟩ (.int .u64 xr) (.inr rfl)) (fun e => HNE.out.1 (Eq.symm e)) (fun e => HNE.out.2.1 (Eq.symm e))).frm (mbox _ _) (fun h => h) (fun h => h)), ((HB2.out.setCell 0 (.int .u32 xs)).setCell 1 (.int .u64 xr)).frm (mbox _ _) (fun h => h), (HK2.out.frm (((Frm.refl (· = bk) w2).setCell ⟨bk, 0, none⟩ (.int .u32 xs) (.inr rfl)).setCell ⟨bk, 1, none⟩ (.int .u64 xr) (.inr rfl)) (fun e => HNE.out.2.2.2.1 e)).frm (mbox _ _) (fun h => h), HI.out, ((HF2.out.setCell _ _ (.inl HNE.out.2.2.2.2.1)).setCell _ _ (.inl HNE.out.2.2.2.2.1)).trans (mbox _ _)⟩
                    case measure => rw [HRG.out.left_eq, ((HR2.out.frm (((Frm.refl (· = bk) w2).setCell ⟨bk, 0, none⟩ (.int .u32 xs) (.inr rfl)).setCell ⟨bk, 1, none⟩ (.int .u64 xr) (.inr rfl)) (fun e => HNE.out.1 (Eq.symm e)) (fun e => HNE.out.2.1 (Eq.symm e))).frm (mbox _ _) (fun h => h) (fun h => h)).left_eq]; exact HLT2.out
                  · have HI := hid (HP.out.worse (x := (xs, xr)) (fun h => h.elim h4 (fun h => h6 h.2)))
                    go_wp2_with (go_at_call 11; (with_reducible refine (MCount_calls ((HE.out.quiet HF2.out).quiet (mbox _ _)) (xs, xr) HKX.out but C HC.out).mono ?_); rintro e w5 ⟨rfl, rfl⟩; skip)
                    go_roundw
                    case rel => exact ⟨_, (_, br), _, cnt2, rfl, HR2.out.frm (mbox _ _) (fun h => h) (fun h => h), HB2.out.frm (mbox _ _) (fun h => h), HK2.out.frm (mbox _ _) (fun h => h), HI.out, HF2.out.trans (mbox _ _)⟩
                    case measure => rw [HRG.out.left_eq, (HR2.out.frm (mbox _ _) (fun h => h) (fun h => h)).left_eq]; exact HLT2.out
                · have e1 : (xs == bs) = false := beq_eq_false_iff_ne.2 h5
                  have HI := hid (HP.out.worse (x := (xs, xr)) (fun h => h.elim h4 (fun h => h5 h.1)))
                  go_wp2_with (go_at_call 11; (with_reducible refine (MCount_calls ((HE.out.quiet HF2.out).quiet (mbox _ _)) (xs, xr) HKX.out but C HC.out).mono ?_); rintro e w5 ⟨rfl, rfl⟩; skip)
                  go_roundw
                  case rel => exact ⟨_, (_, br), _, cnt2, rfl, HR2.out.frm (mbox _ _) (fun h => h) (fun h => h), HB2.out.frm (mbox _ _) (fun h => h), HK2.out.frm (mbox _ _) (fun h => h), HI.out, HF2.out.trans (mbox _ _)⟩
                  case measure => rw [HRG.out.left_eq, (HR2.out.frm (mbox _ _) (fun h => h) (fun h => h)).left_eq]; exact HLT2.out
        · have HZE := hid (show ((xs, xr) : Mk) = (bs, br) by have h := HZ.out; rw [Bool.and_eq_true] at h; rw [beq_iff_eq.1 h.1, beq_iff_eq.1 h.2])
          have HI := hid (HP.out.worse (x := (xs, xr)) (fun h => by rw [HZE.out] at h; unfold better at h; omega))
          go_wp2_with (go_at_call 11; (with_reducible refine (MCount_calls ((HE.out.quiet HF2.out).quiet (mbox _ _)) (xs, xr) HKX.out but C HC.out).mono ?_); rintro e w5 ⟨rfl, rfl⟩; skip)
          go_roundw
          case rel => exact ⟨_, (_, br), _, cnt2, rfl, HR2.out.frm (mbox _ _) (fun h => h) (fun h => h), HB2.out.frm (mbox _ _) (fun h => h), HK2.out.frm (mbox _ _) (fun h => h), HI.out, HF2.out.trans (mbox _ _)⟩
          case measure => rw [HRG.out.left_eq, (HR2.out.frm (mbox _ _) (fun h => h) (fun h => h)).left_eq]; exact HLT2.out
set_option maxHeartbeats 16000000 in
theorem MBest_low {w : World} {lb mb N : Nat} {σ : Has} (h : IsMk w lb mb N σ) (hok : ∀ m, anyB (σ m) = true → okK m) (least many but : Int) (h1 : many < 1) :
    Calls Try.prog 10 #[.pointer (some ⟨lb, 0, none⟩), .int .u32 least, .int .i64 many, .int .i64 but] w fun e w' => ∃ (b : Mk) (fd : Bool), e = .returned (.tuple #[.agg #[.int .u32 b.1, .int .u64 b.2], .bool fd]) ∧ BestR σ least 1 but fd b ∧ Frm (fun _ => False) w w' := by
  have HE := hid h; have HOK := hid hok; have HLT := hid h.lt
  have hsz : ((w.alloc (.cells #[.int .u32 0, .int .u64 0] TMk)).alloc (.cells #[.int .u32 0, .int .u64 0] TMk)).heap.size = w.heap.size + 2 := by simp
  have HSZ := hid hsz
  have HRK := hid ((Blk.new w (mkC (0, 0)) TMk).frm (mbox _ (.cells #[.int .u32 0, .int .u64 0] TMk)) (fun h => h))
  have HBK := hid (show Blk ((w.alloc (.cells #[.int .u32 0, .int .u64 0] TMk)).alloc (.cells #[.int .u32 0, .int .u64 0] TMk)) (w.heap.size + 1) (mkC (0, 0)) TMk from blkM _ (0, 0) _ (by simp))
  have HF0 := hid ((mbox w (.cells #[.int .u32 0, .int .u64 0] TMk)).trans (mbox _ (.cells #[.int .u32 0, .int .u64 0] TMk)))
  have q0 := (h.quiet HF0.out).cell
  obtain ⟨n, hn, hm⟩ := (h.quiet HF0.out).map
  have HM := hid hm
  clear h hn hm hok hsz
  go_enter Try.func10, Try.ntmps10
  go_wp2_with (at_range; refine wpList_mp_range rfl _ rfl HM.out u_mm rfl ?_; intro w1 hrg hg1 hs1; (rw [HSZ.out] at hrg); (rw [HSZ.out]); have HRG := hid hrg; have HF1 := hid (HF0.out.trans hg1); have HB1 := hid (HBK.out.frm hg1 (fun h => h)); have HR1 := hid (HRK.out.frm hg1 (fun h => h)); clear hrg hg1 hs1)
  try go_frame
  clear HM HF0 HBK HRK q0
  obtain ⟨ib, hib⟩ : ∃ ib, w.heap.size + 2 = ib := ⟨_, rfl⟩
  obtain ⟨bk, hbk⟩ : ∃ bk, w.heap.size + 1 = bk := ⟨_, rfl⟩
  obtain ⟨rk, hrk⟩ : ∃ rk, w.heap.size = rk := ⟨_, rfl⟩
  have HRKW := hid (show w.heap.size ≤ rk from Nat.le_of_eq hrk)
  have HNE := hid (show ¬ bk = mb ∧ ¬ bk = ib ∧ ¬ bk = rk ∧ ¬ rk = bk ∧ w.heap.size ≤ bk ∧ w.heap.size ≤ ib by have := HLT.out.2; omega)
  rw [hib, hbk, hrk]
  rw [hib] at HRG
  rw [hbk] at HB1
  rw [hrk] at HR1
  clear hib hbk hrk HSZ
  go_loopw [11] (fun fv wr => ∃ (fd : Bool) (b : Mk) (left : Value → Prop) (cnt : Nat), fv = .bool fd ∧ Rng TMk wr mb ib n (fM σ) left cnt ∧ Blk wr bk (mkC b) TMk ∧ Blk wr rk (mkC (0, 0)) TMk ∧ BestI σ least 1 but left fd b ∧ Frm (fun _ => False) w wr) (fun _ wr => wr.rangeLeft mb ib)
  case atStart => exact ⟨false, (0, 0), _, n, rfl, HRG.out, HB1.out, HR1.out, BestI.zero, HF1.out⟩
  case round =>
    clear HRG HF1 HB1 HR1
    obtain ⟨fd, ⟨bs, br⟩, left, cnt, rfl, hrg, hb, hr, hp, hf⟩ := hrel
    have HRG := hid hrg; have HP := hid hp; have HF := hid hf; have HB := hid hb; have HR := hid hr
    have HRN := hid (rng_ne hrg hb); have HRN2 := hid (rng_ne hrg hr)
    clear hrg hp hf hb hr
    go_wp2_with (at_next; refine wpList_mp_next rfl _ rfl (fun x : KX => .agg #[.int .u32 x.s, .int .u64 x.r]) (fun y : BX => .agg #[.bool y.a, .bool y.b, .bool y.c, .bool y.d]) HRG.out (fun key v hf => fM_inv2 hf) rfl ?_ ?_)
    · intro hl0 hc0
      have HDN := hid (HP.out.done hl0)
      have b0 := HB.out.cell 0; have b1 := HB.out.cell 1; have r0 := HR.out.cell 0; have r1 := HR.out.cell 1
      simp only [mkC, List.getElem?_cons_succ, List.getElem?_cons_zero] at b0 b1 r0 r1
      have z0 := HR.out.free 0; have z1 := HR.out.free 1
      have hne := HNE.out.2.2.1; have hne2 := HNE.out.2.2.2.1
      clear hl0 hc0
      go_wp2
      (try simp only [Exit.inBlock, Exit.then])
      refine bodyPost_ret (results_cell2 rfl _ _ rk TMk [.int .u32 bs, .int .u64 br] _ (.bool fd) rfl rfl ((HR.out.setCell 0 (.int .u32 bs)).setCell 1 (.int .u64 br)) Try.underlying30 (by kernel_rfl)) rfl ⟨(bs, br), fd, rfl, HDN.out, (HF.out.setCell _ _ (.inl HRKW.out)).setCell _ _ (.inl HRKW.out)⟩
    · intro x y w2 cnt2 hlk hfk hrg2 hlt2 hg2 hs2 hen
      obtain ⟨xs, xr⟩ := x
      obtain ⟨y0, y1, y2, y3⟩ := y
      obtain ⟨m, hm1, hm2, hm3⟩ := fM_inv hfk
      obtain rfl : (xs, xr) = m := mkV_inj hm1
      have HAN := hid hm3
      have HKX := hid (HOK.out _ hm3)
      dsimp only at hen
      have HR2 := hid hrg2; have HLT2 := hid hlt2
      have HF2 := hid (HF.out.trans' hg2 (fun i hi e => by have := HNE.out.2.2.2.2.2; omega))
      have HB2 := hid (HB.out.frm hg2 (fun e => HRN.out e.symm)); have HK2 := hid (HR.out.frm hg2 (fun e => HRN2.out e.symm))
      clear hlk hfk hrg2 hlt2 hg2 hs2 hm1 hm2 hm3 HF HB HR
      have b0 := HB2.out.cell 0; have b1 := HB2.out.cell 1; have z0 := HB2.out.free 0; have z1 := HB2.out.free 1; have hbl := HB2.out.lt
      simp only [mkC, List.getElem?_cons_succ, List.getElem?_cons_zero] at b0 b1
      obtain ⟨C, hC⟩ : ∃ C, cntB (σ (xs, xr)) but = C := ⟨_, rfl⟩
      have HC := hid hC
      have hC0 : C ≤ 4 := by rw [← hC]; exact (pc_le _ _ 4).2
      have hC1 : 0 ≤ C := by rw [← hC]; exact (pc_le _ _ 4).1
      clear hC
      cases fd
      · by_cases h2 : xs < least
        · have HI := hid (HP.out.pass (x := (xs, xr)) (fun h => by have h3 : least ≤ xs := h.2.1; omega))
          go_wp2_with (go_at_call 11; (with_reducible refine (MCount_calls ((HE.out.quiet HF2.out).quiet (mbox _ _)) (xs, xr) HKX.out but C HC.out).mono ?_); rintro e w5 ⟨rfl, rfl⟩; skip)
          go_roundw
          case rel => exact ⟨_, (_, br), _, cnt2, rfl, HR2.out.frm (mbox _ _) (fun h => h) (fun h => h), HB2.out.frm (mbox _ _) (fun h => h), HK2.out.frm (mbox _ _) (fun h => h), HI.out, HF2.out.trans (mbox _ _)⟩
          case measure => rw [HRG.out.left_eq, (HR2.out.frm (mbox _ _) (fun h => h) (fun h => h)).left_eq]; exact HLT2.out
        · by_cases h3 : C < 1
          · have HI := hid (HP.out.pass (x := (xs, xr)) (fun h => by have h4 := h.2.2; rw [HC.out] at h4; omega))
            go_wp2_with (go_at_call 11; (with_reducible refine (MCount_calls ((HE.out.quiet HF2.out).quiet (mbox _ _)) (xs, xr) HKX.out but C HC.out).mono ?_); rintro e w5 ⟨rfl, rfl⟩; skip)
            go_roundw
            case rel => exact ⟨_, (_, br), _, cnt2, rfl, HR2.out.frm (mbox _ _) (fun h => h) (fun h => h), HB2.out.frm (mbox _ _) (fun h => h), HK2.out.frm (mbox _ _) (fun h => h), HI.out, HF2.out.trans (mbox _ _)⟩
            case measure => rw [HRG.out.left_eq, (HR2.out.frm (mbox _ _) (fun h => h) (fun h => h)).left_eq]; exact HLT2.out
          · have HOB := hid (show okB σ least 1 but (xs, xr) from ⟨HAN.out, by show least ≤ xs; omega, by rw [HC.out]; omega⟩)
            have HI := hid (HP.out.first HOB.out)
            go_wp2_with (go_at_call 11; (with_reducible refine (MCount_calls ((HE.out.quiet HF2.out).quiet (mbox _ _)) (xs, xr) HKX.out but C HC.out).mono ?_); rintro e w5 ⟨rfl, rfl⟩; skip)
            go_roundw
            case rel => exact ⟨true, (xs, xr), _, cnt2, rfl, ((HR2.out.frm (((Frm.refl (· = bk) w2).setCell ⟨bk, 0, none⟩ (.int .u32 xs) (.inr rfl)).setCell ⟨bk, 1, none⟩ (.int .u64 xr) (.inr rfl)) (fun e => HNE.out.1 (Eq.symm e)) (fun e => HNE.out.2.1 (Eq.symm e))).frm (mbox _ _) (fun h => h) (fun h => h)), ((HB2.out.setCell 0 (.int .u32 xs)).setCell 1 (.int .u64 xr)).frm (mbox _ _) (fun h => h), (HK2.out.frm (((Frm.refl (· = bk) w2).setCell ⟨bk, 0, none⟩ (.int .u32 xs) (.inr rfl)).setCell ⟨bk, 1, none⟩ (.int .u64 xr) (.inr rfl)) (fun e => HNE.out.2.2.2.1 e)).frm (mbox _ _) (fun h => h), HI.out, ((HF2.out.setCell _ _ (.inl HNE.out.2.2.2.2.1)).setCell _ _ (.inl HNE.out.2.2.2.2.1)).trans (mbox _ _)⟩
            case measure => rw [HRG.out.left_eq, ((HR2.out.frm (((Frm.refl (· = bk) w2).setCell ⟨bk, 0, none⟩ (.int .u32 xs) (.inr rfl)).setCell ⟨bk, 1, none⟩ (.int .u64 xr) (.inr rfl)) (fun e => HNE.out.1 (Eq.symm e)) (fun e => HNE.out.2.1 (Eq.symm e))).frm (mbox _ _) (fun h => h) (fun h => h)).left_eq]; exact HLT2.out
      · obtain ⟨z, hz⟩ : ∃ z, (xs == bs && xr == br) = z := ⟨_, rfl⟩
        have heq := fun w => eqMk w xs xr bs br z hz
        have HZ := hid hz
        clear hz
        cases z
        · have HZN := hid (show ¬ ((xs, xr) : Mk) = (bs, br) from fun e => by injection e with e1 e2; have := HZ.out; rw [e1, e2, beq_self_eq_true, beq_self_eq_true] at this; exact absurd this (by decide))
          by_cases h2 : xs < least
          · have HI := hid (HP.out.pass (x := (xs, xr)) (fun h => by have h3 : least ≤ xs := h.2.1; omega))
            go_wp2_with (go_at_call 11; (with_reducible refine (MCount_calls ((HE.out.quiet HF2.out).quiet (mbox _ _)) (xs, xr) HKX.out but C HC.out).mono ?_); rintro e w5 ⟨rfl, rfl⟩; skip)
            go_roundw
            case rel => exact ⟨_, (_, br), _, cnt2, rfl, HR2.out.frm (mbox _ _) (fun h => h) (fun h => h), HB2.out.frm (mbox _ _) (fun h => h), HK2.out.frm (mbox _ _) (fun h => h), HI.out, HF2.out.trans (mbox _ _)⟩
            case measure => rw [HRG.out.left_eq, (HR2.out.frm (mbox _ _) (fun h => h) (fun h => h)).left_eq]; exact HLT2.out
          · by_cases h3 : C < 1
            · have HI := hid (HP.out.pass (x := (xs, xr)) (fun h => by have h4 := h.2.2; rw [HC.out] at h4; omega))
              go_wp2_with (go_at_call 11; (with_reducible refine (MCount_calls ((HE.out.quiet HF2.out).quiet (mbox _ _)) (xs, xr) HKX.out but C HC.out).mono ?_); rintro e w5 ⟨rfl, rfl⟩; skip)
              go_roundw
              case rel => exact ⟨_, (_, br), _, cnt2, rfl, HR2.out.frm (mbox _ _) (fun h => h) (fun h => h), HB2.out.frm (mbox _ _) (fun h => h), HK2.out.frm (mbox _ _) (fun h => h), HI.out, HF2.out.trans (mbox _ _)⟩
              case measure => rw [HRG.out.left_eq, (HR2.out.frm (mbox _ _) (fun h => h) (fun h => h)).left_eq]; exact HLT2.out
            · have HOB := hid (show okB σ least 1 but (xs, xr) from ⟨HAN.out, by show least ≤ xs; omega, by rw [HC.out]; omega⟩)
              by_cases h4 : bs < xs
              · have HI := hid (HP.out.take HOB.out (.inl h4))
                go_wp2_with (go_at_call 11; (with_reducible refine (MCount_calls ((HE.out.quiet HF2.out).quiet (mbox _ _)) (xs, xr) HKX.out but C HC.out).mono ?_); rintro e w5 ⟨rfl, rfl⟩; skip)
                go_roundw
                case rel => exact ⟨true, (xs, xr), _, cnt2, rfl, ((HR2.out.frm (((Frm.refl (· = bk) w2).setCell ⟨bk, 0, none⟩ (.int .u32 xs) (.inr rfl)).setCell ⟨bk, 1, none⟩ (.int .u64 xr) (.inr rfl)) (fun e => HNE.out.1 (Eq.symm e)) (fun e => HNE.out.2.1 (Eq.symm e))).frm (mbox _ _) (fun h => h) (fun h => h)), ((HB2.out.setCell 0 (.int .u32 xs)).setCell 1 (.int .u64 xr)).frm (mbox _ _) (fun h => h), (HK2.out.frm (((Frm.refl (· = bk) w2).setCell ⟨bk, 0, none⟩ (.int .u32 xs) (.inr rfl)).setCell ⟨bk, 1, none⟩ (.int .u64 xr) (.inr rfl)) (fun e => HNE.out.2.2.2.1 e)).frm (mbox _ _) (fun h => h), HI.out, ((HF2.out.setCell _ _ (.inl HNE.out.2.2.2.2.1)).setCell _ _ (.inl HNE.out.2.2.2.2.1)).trans (mbox _ _)⟩
                case measure => rw [HRG.out.left_eq, ((HR2.out.frm (((Frm.refl (· = bk) w2).setCell ⟨bk, 0, none⟩ (.int .u32 xs) (.inr rfl)).setCell ⟨bk, 1, none⟩ (.int .u64 xr) (.inr rfl)) (fun e => HNE.out.1 (Eq.symm e)) (fun e => HNE.out.2.1 (Eq.symm e))).frm (mbox _ _) (fun h => h) (fun h => h)).left_eq]; exact HLT2.out
              · by_cases h5 : xs = bs
                · subst h5
                  by_cases h6 : xr < br
                  · have HI := hid (HP.out.take HOB.out (.inr ⟨rfl, h6⟩))
                    go_wp2_with (go_at_call 11; (with_reducible refine (MCount_calls ((HE.out.quiet HF2.out).quiet (mbox _ _)) (xs, xr) HKX.out but C HC.out).mono ?_); rintro e w5 ⟨rfl, rfl⟩; skip)
                    go_roundw
                    case rel => exact ⟨true, (xs, xr), _, cnt2, rfl, ((HR2.out.frm (((Frm.refl (· = bk) w2).setCell ⟨bk, 0, none⟩ (.int .u32 xs) (.inr rfl)).setCell ⟨bk, 1, none⟩ (.int .u64 xr) (.inr rfl)) (fun e => HNE.out.1 (Eq.symm e)) (fun e => HNE.out.2.1 (Eq.symm e))).frm (mbox _ _) (fun h => h) (fun h => h)), ((HB2.out.setCell 0 (.int .u32 xs)).setCell 1 (.int .u64 xr)).frm (mbox _ _) (fun h => h), (HK2.out.frm (((Frm.refl (· = bk) w2).setCell ⟨bk, 0, none⟩ (.int .u32 xs) (.inr rfl)).setCell ⟨bk, 1, none⟩ (.int .u64 xr) (.inr rfl)) (fun e => HNE.out.2.2.2.1 e)).frm (mbox _ _) (fun h => h), HI.out, ((HF2.out.setCell _ _ (.inl HNE.out.2.2.2.2.1)).setCell _ _ (.inl HNE.out.2.2.2.2.1)).trans (mbox _ _)⟩
                    case measure => rw [HRG.out.left_eq, ((HR2.out.frm (((Frm.refl (· = bk) w2).setCell ⟨bk, 0, none⟩ (.int .u32 xs) (.inr rfl)).setCell ⟨bk, 1, none⟩ (.int .u64 xr) (.inr rfl)) (fun e => HNE.out.1 (Eq.symm e)) (fun e => HNE.out.2.1 (Eq.symm e))).frm (mbox _ _) (fun h => h) (fun h => h)).left_eq]; exact HLT2.out
                  · have HI := hid (HP.out.worse (x := (xs, xr)) (fun h => h.elim h4 (fun h => h6 h.2)))
                    go_wp2_with (go_at_call 11; (with_reducible refine (MCount_calls ((HE.out.quiet HF2.out).quiet (mbox _ _)) (xs, xr) HKX.out but C HC.out).mono ?_); rintro e w5 ⟨rfl, rfl⟩; skip)
                    go_roundw
                    case rel => exact ⟨_, (_, br), _, cnt2, rfl, HR2.out.frm (mbox _ _) (fun h => h) (fun h => h), HB2.out.frm (mbox _ _) (fun h => h), HK2.out.frm (mbox _ _) (fun h => h), HI.out, HF2.out.trans (mbox _ _)⟩
                    case measure => rw [HRG.out.left_eq, (HR2.out.frm (mbox _ _) (fun h => h) (fun h => h)).left_eq]; exact HLT2.out
                · have e1 : (xs == bs) = false := beq_eq_false_iff_ne.2 h5
                  have HI := hid (HP.out.worse (x := (xs, xr)) (fun h => h.elim h4 (fun h => h5 h.1)))
                  go_wp2_with (go_at_call 11; (with_reducible refine (MCount_calls ((HE.out.quiet HF2.out).quiet (mbox _ _)) (xs, xr) HKX.out but C HC.out).mono ?_); rintro e w5 ⟨rfl, rfl⟩; skip)
                  go_roundw
                  case rel => exact ⟨_, (_, br), _, cnt2, rfl, HR2.out.frm (mbox _ _) (fun h => h) (fun h => h), HB2.out.frm (mbox _ _) (fun h => h), HK2.out.frm (mbox _ _) (fun h => h), HI.out, HF2.out.trans (mbox _ _)⟩
                  case measure => rw [HRG.out.left_eq, (HR2.out.frm (mbox _ _) (fun h => h) (fun h => h)).left_eq]; exact HLT2.out
        · have HZE := hid (show ((xs, xr) : Mk) = (bs, br) by have h := HZ.out; rw [Bool.and_eq_true] at h; rw [beq_iff_eq.1 h.1, beq_iff_eq.1 h.2])
          have HI := hid (HP.out.worse (x := (xs, xr)) (fun h => by rw [HZE.out] at h; unfold better at h; omega))
          go_wp2_with (go_at_call 11; (with_reducible refine (MCount_calls ((HE.out.quiet HF2.out).quiet (mbox _ _)) (xs, xr) HKX.out but C HC.out).mono ?_); rintro e w5 ⟨rfl, rfl⟩; skip)
          go_roundw
          case rel => exact ⟨_, (_, br), _, cnt2, rfl, HR2.out.frm (mbox _ _) (fun h => h) (fun h => h), HB2.out.frm (mbox _ _) (fun h => h), HK2.out.frm (mbox _ _) (fun h => h), HI.out, HF2.out.trans (mbox _ _)⟩
          case measure => rw [HRG.out.left_eq, (HR2.out.frm (mbox _ _) (fun h => h) (fun h => h)).left_eq]; exact HLT2.out
end Go.Proofs.Ytiffhkhmkigolaa
