/- The document's marks: Best. -/
import Derived.Test.YtiffhkhmkigolaaRmk1
namespace Go.Proofs.Ytiffhkhmkigolaa
open Go.RowKit Go.ChangeShapes
set_option linter.unusedVariables false
set_option linter.unusedSimpArgs false
set_option maxRecDepth 100000
/-- One that may be told. -/
def okA (Ls : List Sa) (least k but : Int) (m : Mk) : Prop := least ≤ m.1 ∧ k ≤ (cntA Ls m but : Int)
/-- The best one of those that have been looked at. -/
structure BestL (Q : Mk → Prop) (seen : List Sa) (fd : Bool) (b : Mk) : Prop where
  no : fd = false → b = (0, 0) ∧ ∀ s ∈ seen, ¬ Q s.2
  yes : fd = true → ((∃ s ∈ seen, s.2 = b) ∧ Q b) ∧ ∀ s ∈ seen, Q s.2 → ¬ better s.2 b
section
variable {Q : Mk → Prop} {Ls : List Sa} {k : Nat} {fd : Bool} {b : Mk} {x : Sa}
theorem BestL.zero : BestL Q ([] : List Sa) false (0, 0) := ⟨fun _ => ⟨rfl, fun s h => absurd h (by simp)⟩, fun h => absurd h (by decide)⟩
theorem mem_take {s : Sa} (hx : Ls[k]? = some x) (h : s ∈ Ls.take (k + 1)) : s ∈ Ls.take k ∨ s = x := by
  rw [List.take_add_one, hx] at h
  rcases List.mem_append.1 h with h | h
  · exact .inl h
  · exact .inr (List.mem_singleton.1 h)
theorem mem_take1 {s : Sa} (h : s ∈ Ls.take k) : s ∈ Ls.take (k + 1) := List.mem_of_mem_take (i := k) (by rw [List.take_take, Nat.min_eq_left (Nat.le_succ k)]; exact h)
theorem mem_take2 (hx : Ls[k]? = some x) : x ∈ Ls.take (k + 1) := by rw [List.take_add_one, hx]; exact List.mem_append_right _ (List.mem_singleton.2 rfl)
theorem BestL.pass (h : BestL Q (Ls.take k) fd b) (hx : Ls[k]? = some x) (hn : ¬ Q x.2) : BestL Q (Ls.take (k + 1)) fd b :=
  ⟨fun e => ⟨(h.no e).1, fun s hs => by
    rcases mem_take hx hs with h1 | h1
    · exact (h.no e).2 s h1
    · rw [h1]; exact hn⟩, fun e => ⟨⟨by obtain ⟨s, h1, h2⟩ := (h.yes e).1.1; exact ⟨s, mem_take1 h1, h2⟩, (h.yes e).1.2⟩, fun s hs hq => by
    rcases mem_take hx hs with h1 | h1
    · exact (h.yes e).2 s h1 hq
    · rw [h1] at hq; exact absurd hq hn⟩⟩
theorem BestL.worse (h : BestL Q (Ls.take k) true b) (hx : Ls[k]? = some x) (hn : ¬ better x.2 b) : BestL Q (Ls.take (k + 1)) true b :=
  ⟨fun e => absurd e (by decide), fun e => ⟨⟨by obtain ⟨s, h1, h2⟩ := (h.yes e).1.1; exact ⟨s, mem_take1 h1, h2⟩, (h.yes e).1.2⟩, fun s hs hq => by
    rcases mem_take hx hs with h1 | h1
    · exact (h.yes e).2 s h1 hq
    · rw [h1]; exact hn⟩⟩
theorem BestL.first (h : BestL Q (Ls.take k) false b) (hx : Ls[k]? = some x) (hq : Q x.2) : BestL Q (Ls.take (k + 1)) true x.2 :=
  ⟨fun e => absurd e (by decide), fun _ => ⟨⟨⟨x, mem_take2 hx, rfl⟩, hq⟩, fun s hs hqs => by
    rcases mem_take hx hs with h1 | h1
    · exact absurd hqs ((h.no rfl).2 s h1)
    · rw [h1]; unfold better; omega⟩⟩
theorem BestL.take (h : BestL Q (Ls.take k) true b) (hx : Ls[k]? = some x) (hq : Q x.2) (hb : better x.2 b) : BestL Q (Ls.take (k + 1)) true x.2 :=
  ⟨fun e => absurd e (by decide), fun e => ⟨⟨⟨x, mem_take2 hx, rfl⟩, hq⟩, fun s hs hqs => by
    rcases mem_take hx hs with h1 | h1
    · have := (h.yes rfl).2 s h1 hqs
      unfold better at *; omega
    · rw [h1]; unfold better; omega⟩⟩
end
set_option maxHeartbeats 16000000 in
theorem RBest_calls {w : World} {rb : Nat} {v : Value} {Ls : List Sa} (h : IsRd w rb v Ls) (least many but : Int) (h1 : 1 ≤ many) :
    Calls Try.prog 17 #[.pointer (some ⟨rb, 0, none⟩), .int .u32 least, .int .i64 many, .int .i64 but] w fun e w' => ∃ (b : Mk) (fd : Bool), e = .returned (.tuple #[.agg #[.int .u32 b.1, .int .u64 b.2], .bool fd]) ∧ BestL (okA Ls least many but) Ls fd b ∧ Frm (fun _ => False) w w' := by
  obtain ⟨va, vc, hv⟩ := h.own.slice
  subst hv
  obtain ⟨L, hL⟩ : ∃ L, Ls.length = L := ⟨_, rfl⟩
  have HL := hid hL
  rw [hL] at h
  have q0 := h.blk.cell 0
  simp only [List.getElem?_cons_zero] at q0
  have hl1 : (L : Int) ≤ 1000 := by have := h.few; omega
  have hl0 : (0 : Int) ≤ (L : Int) := by omega
  have HO := hid h.own; have HFR := hid h.fr
  have HRD := hid h
  have hrbl := h.blk.lt
  have HRK := hid ((Blk.new w (mkC (0, 0)) TMk).frm (mbox _ (.cells #[.int .u32 0, .int .u64 0] TMk)) (fun h => h))
  have HBK := hid (show Blk ((w.alloc (.cells #[.int .u32 0, .int .u64 0] TMk)).alloc (.cells #[.int .u32 0, .int .u64 0] TMk)) (w.heap.size + 1) (mkC (0, 0)) TMk from blkM _ (0, 0) _ (by simp))
  have HF0 := hid ((mbox w (.cells #[.int .u32 0, .int .u64 0] TMk)).trans (mbox _ (.cells #[.int .u32 0, .int .u64 0] TMk)))
  clear h hL
  go_enter Try.func17, Try.ntmps17
  go_wp2
  try go_frame
  obtain ⟨bk, hbk⟩ : ∃ bk, w.heap.size + 1 = bk := ⟨_, rfl⟩
  obtain ⟨rk, hrk⟩ : ∃ rk, w.heap.size = rk := ⟨_, rfl⟩
  have HRKW := hid (show w.heap.size ≤ rk from Nat.le_of_eq hrk)
  have HNE := hid (show ¬ bk = rk ∧ ¬ rk = bk ∧ w.heap.size ≤ bk by omega)
  rw [hbk, hrk]
  rw [hbk] at HBK
  rw [hrk] at HRK
  clear hbk hrk q0 hrbl
  go_loopw [11, 12] (fun fv kv wr => ∃ (fd : Bool) (b : Mk) (k : Nat), k ≤ L ∧ fv = .bool fd ∧ kv = .int .i64 k ∧ Blk wr bk (mkC b) TMk ∧ Blk wr rk (mkC (0, 0)) TMk ∧ BestL (okA Ls least many but) (Ls.take k) fd b ∧ Frm (fun _ => False) w wr) (fun _ kv _ => L - (intOf kv).toNat)
  case atStart => exact ⟨false, (0, 0), 0, by omega, rfl, rfl, HBK.out, HRK.out, BestL.zero, HF0.out⟩
  case round =>
    clear HF0 HBK HRK
    obtain ⟨fd, ⟨bs, br⟩, k, hk, rfl, rfl, hb, hr, hp, hf⟩ := hrel
    have HP := hid hp; have HF := hid hf; have HB := hid hb; have HR := hid hr
    have HRQ := hid (HRD.out.quiet hf)
    have q0 := HRQ.out.blk.cell 0
    have hrbl := HRQ.out.blk.lt
    simp only [List.getElem?_cons_zero] at q0
    clear hp hf hb hr
    by_cases hlt : k < L
    · have HO2 := hid (HO.out.quiet HF.out)
      obtain ⟨⟨fr, s1, s2⟩, hx⟩ : ∃ x, Ls[k]? = some x := ⟨_, List.getElem?_eq_getElem (by rw [HL.out]; exact hlt)⟩
      obtain ⟨g, c, hv, hgc, hgm, _⟩ := HO2.out.at_ (by rw [HL.out]; omega)
      injection hv with e1 e2 e3
      subst e1 e3
      have c0 := HO2.out.cells k _ hx 0 (by decide); have c1 := HO2.out.cells k _ hx 1 (by decide); have c2 := HO2.out.cells k _ hx 2 (by decide)
      simp only [saC, List.getElem?_cons_succ, List.getElem?_cons_zero, Nat.add_zero] at c0 c1 c2
      rw [HL.out] at hgc
      have HX := hid hx; have HLT := hid hlt
      obtain ⟨hf0, hf3⟩ : 0 ≤ fr ∧ fr < 4 := HFR.out _ (List.mem_of_getElem? hx)
      have hkl : (k : Int) < (L : Int) := by omega
      have hk0 : (0 : Int) ≤ (k : Int) := by omega
      clear hx hlt e2 hk
      have hgl := HO2.out.lt rfl
      have b0 := HB.out.cell 0; have b1 := HB.out.cell 1; have z0 := HB.out.free 0; have z1 := HB.out.free 1; have hbl := HB.out.lt
      simp only [mkC, List.getElem?_cons_succ, List.getElem?_cons_zero] at b0 b1
      obtain ⟨C, hC⟩ : ∃ C : Int, (cntA Ls (s1, s2) but : Int) = C := ⟨_, rfl⟩
      have HC := hid hC
      have hC0 : C ≤ 1000 := by have h1 := cntA_le Ls (s1, s2) but; have := HL.out; omega
      have hC1 : 0 ≤ C := by omega
      clear hC
      cases fd
      · by_cases h2 : s1 < least
        · have HI := hid (HP.out.pass HX.out (fun h => by have h3 : least ≤ s1 := h.1; omega))
          go_wp2_with (go_at_call 18; (with_reducible refine (RCount_calls (HRQ.out.quiet (mbox _ _)) (s1, s2) but C HC.out).mono ?_); rintro e w5 ⟨rfl, rfl⟩; skip)
          go_roundw
          case rel => exact ⟨_, (_, br), k + 1, by have := HLT.out; omega, rfl, by first | rfl | go_num, HB.out.frm (mbox _ _) (fun h => h), HR.out.frm (mbox _ _) (fun h => h), HI.out, HF.out.trans (mbox _ _)⟩
          case measure => have := HLT.out; simp [intOf]; omega
        · by_cases h3 : C < many
          · have HI := hid (HP.out.pass HX.out (fun h => by have h4 := h.2; rw [HC.out] at h4; omega))
            go_wp2_with (go_at_call 18; (with_reducible refine (RCount_calls (HRQ.out.quiet (mbox _ _)) (s1, s2) but C HC.out).mono ?_); rintro e w5 ⟨rfl, rfl⟩; skip)
            go_roundw
            case rel => exact ⟨_, (_, br), k + 1, by have := HLT.out; omega, rfl, by first | rfl | go_num, HB.out.frm (mbox _ _) (fun h => h), HR.out.frm (mbox _ _) (fun h => h), HI.out, HF.out.trans (mbox _ _)⟩
            case measure => have := HLT.out; simp [intOf]; omega
          · have HOB := hid (show okA Ls least many but (s1, s2) from ⟨by show least ≤ s1; omega, by rw [HC.out]; omega⟩)
            have HI := hid (HP.out.first HX.out HOB.out)
            go_wp2_with (go_at_call 18; (with_reducible refine (RCount_calls (HRQ.out.quiet (mbox _ _)) (s1, s2) but C HC.out).mono ?_); rintro e w5 ⟨rfl, rfl⟩; skip)
            go_roundw
            case rel => exact ⟨true, (s1, s2), k + 1, by have := HLT.out; omega, rfl, by first | rfl | go_num, ((HB.out.setCell 0 (.int .u32 s1)).setCell 1 (.int .u64 s2)).frm (mbox _ _) (fun h => h), (HR.out.frm (((Frm.refl (· = bk) wr).setCell ⟨bk, 0, none⟩ (.int .u32 s1) (.inr rfl)).setCell ⟨bk, 1, none⟩ (.int .u64 s2) (.inr rfl)) (fun e => HNE.out.2.1 e)).frm (mbox _ _) (fun h => h), HI.out, ((HF.out.setCell _ _ (.inl HNE.out.2.2)).setCell _ _ (.inl HNE.out.2.2)).trans (mbox _ _)⟩
            case measure => have := HLT.out; simp [intOf]; omega
      · skip
        by_cases h2 : s1 < least
        · have HI := hid (HP.out.pass HX.out (fun h => by have h3 : least ≤ s1 := h.1; omega))
          go_wp2_with (go_at_call 18; (with_reducible refine (RCount_calls (HRQ.out.quiet (mbox _ _)) (s1, s2) but C HC.out).mono ?_); rintro e w5 ⟨rfl, rfl⟩; skip)
          go_roundw
          case rel => exact ⟨_, (_, br), k + 1, by have := HLT.out; omega, rfl, by first | rfl | go_num, HB.out.frm (mbox _ _) (fun h => h), HR.out.frm (mbox _ _) (fun h => h), HI.out, HF.out.trans (mbox _ _)⟩
          case measure => have := HLT.out; simp [intOf]; omega
        · by_cases h3 : C < many
          · have HI := hid (HP.out.pass HX.out (fun h => by have h4 := h.2; rw [HC.out] at h4; omega))
            go_wp2_with (go_at_call 18; (with_reducible refine (RCount_calls (HRQ.out.quiet (mbox _ _)) (s1, s2) but C HC.out).mono ?_); rintro e w5 ⟨rfl, rfl⟩; skip)
            go_roundw
            case rel => exact ⟨_, (_, br), k + 1, by have := HLT.out; omega, rfl, by first | rfl | go_num, HB.out.frm (mbox _ _) (fun h => h), HR.out.frm (mbox _ _) (fun h => h), HI.out, HF.out.trans (mbox _ _)⟩
            case measure => have := HLT.out; simp [intOf]; omega
          · have HOB := hid (show okA Ls least many but (s1, s2) from ⟨by show least ≤ s1; omega, by rw [HC.out]; omega⟩)
            by_cases h4 : bs < s1
            · have HI := hid (HP.out.take HX.out HOB.out (.inl h4))
              go_wp2_with (go_at_call 18; (with_reducible refine (RCount_calls (HRQ.out.quiet (mbox _ _)) (s1, s2) but C HC.out).mono ?_); rintro e w5 ⟨rfl, rfl⟩; skip)
              go_roundw
              case rel => exact ⟨true, (s1, s2), k + 1, by have := HLT.out; omega, rfl, by first | rfl | go_num, ((HB.out.setCell 0 (.int .u32 s1)).setCell 1 (.int .u64 s2)).frm (mbox _ _) (fun h => h), (HR.out.frm (((Frm.refl (· = bk) wr).setCell ⟨bk, 0, none⟩ (.int .u32 s1) (.inr rfl)).setCell ⟨bk, 1, none⟩ (.int .u64 s2) (.inr rfl)) (fun e => HNE.out.2.1 e)).frm (mbox _ _) (fun h => h), HI.out, ((HF.out.setCell _ _ (.inl HNE.out.2.2)).setCell _ _ (.inl HNE.out.2.2)).trans (mbox _ _)⟩
              case measure => have := HLT.out; simp [intOf]; omega
            · by_cases h5 : s1 = bs
              · subst h5
                by_cases h6 : s2 < br
                · have HI := hid (HP.out.take HX.out HOB.out (.inr ⟨rfl, h6⟩))
                  go_wp2_with (go_at_call 18; (with_reducible refine (RCount_calls (HRQ.out.quiet (mbox _ _)) (s1, s2) but C HC.out).mono ?_); rintro e w5 ⟨rfl, rfl⟩; skip)
                  go_roundw
                  case rel => exact ⟨true, (s1, s2), k + 1, by have := HLT.out; omega, rfl, by first | rfl | go_num, ((HB.out.setCell 0 (.int .u32 s1)).setCell 1 (.int .u64 s2)).frm (mbox _ _) (fun h => h), (HR.out.frm (((Frm.refl (· = bk) wr).setCell ⟨bk, 0, none⟩ (.int .u32 s1) (.inr rfl)).setCell ⟨bk, 1, none⟩ (.int .u64 s2) (.inr rfl)) (fun e => HNE.out.2.1 e)).frm (mbox _ _) (fun h => h), HI.out, ((HF.out.setCell _ _ (.inl HNE.out.2.2)).setCell _ _ (.inl HNE.out.2.2)).trans (mbox _ _)⟩
                  case measure => have := HLT.out; simp [intOf]; omega
                · have HI := hid (HP.out.worse HX.out (fun h => h.elim h4 (fun h => h6 h.2)))
                  go_wp2_with (go_at_call 18; (with_reducible refine (RCount_calls (HRQ.out.quiet (mbox _ _)) (s1, s2) but C HC.out).mono ?_); rintro e w5 ⟨rfl, rfl⟩; skip)
                  go_roundw
                  case rel => exact ⟨_, (_, br), k + 1, by have := HLT.out; omega, rfl, by first | rfl | go_num, HB.out.frm (mbox _ _) (fun h => h), HR.out.frm (mbox _ _) (fun h => h), HI.out, HF.out.trans (mbox _ _)⟩
                  case measure => have := HLT.out; simp [intOf]; omega
              · have e1 : (s1 == bs) = false := beq_eq_false_iff_ne.2 h5
                have HI := hid (HP.out.worse HX.out (fun h => h.elim h4 (fun h => h5 h.1)))
                go_wp2_with (go_at_call 18; (with_reducible refine (RCount_calls (HRQ.out.quiet (mbox _ _)) (s1, s2) but C HC.out).mono ?_); rintro e w5 ⟨rfl, rfl⟩; skip)
                go_roundw
                case rel => exact ⟨_, (_, br), k + 1, by have := HLT.out; omega, rfl, by first | rfl | go_num, HB.out.frm (mbox _ _) (fun h => h), HR.out.frm (mbox _ _) (fun h => h), HI.out, HF.out.trans (mbox _ _)⟩
                case measure => have := HLT.out; simp [intOf]; omega
    · have hke : k = L := by omega
      subst hke
      have hpe := HP.out
      rw [List.take_of_length_le (show Ls.length ≤ k by rw [HL.out]; exact Nat.le_refl _)] at hpe
      have HPE := hid hpe; clear hpe
      have b0 := HB.out.cell 0; have b1 := HB.out.cell 1; have r0 := HR.out.cell 0; have r1 := HR.out.cell 1
      simp only [mkC, List.getElem?_cons_succ, List.getElem?_cons_zero] at b0 b1 r0 r1
      have z0 := HR.out.free 0; have z1 := HR.out.free 1
      have hne := HNE.out.1; have hne2 := HNE.out.2.1
      clear hk hlt
      go_wp2
      (try simp only [Exit.inBlock, Exit.then])
      refine bodyPost_ret (results_cell2 rfl _ _ rk TMk [.int .u32 bs, .int .u64 br] _ (.bool fd) rfl rfl ((HR.out.setCell 0 (.int .u32 bs)).setCell 1 (.int .u64 br)) Try.underlying30 (by kernel_rfl)) rfl ⟨(bs, br), fd, rfl, HPE.out, (HF.out.setCell _ _ (.inl HRKW.out)).setCell _ _ (.inl HRKW.out)⟩
set_option maxHeartbeats 16000000 in
theorem RBest_low {w : World} {rb : Nat} {v : Value} {Ls : List Sa} (h : IsRd w rb v Ls) (least many but : Int) (h1 : many < 1) :
    Calls Try.prog 17 #[.pointer (some ⟨rb, 0, none⟩), .int .u32 least, .int .i64 many, .int .i64 but] w fun e w' => ∃ (b : Mk) (fd : Bool), e = .returned (.tuple #[.agg #[.int .u32 b.1, .int .u64 b.2], .bool fd]) ∧ BestL (okA Ls least 1 but) Ls fd b ∧ Frm (fun _ => False) w w' := by
  obtain ⟨va, vc, hv⟩ := h.own.slice
  subst hv
  obtain ⟨L, hL⟩ : ∃ L, Ls.length = L := ⟨_, rfl⟩
  have HL := hid hL
  rw [hL] at h
  have q0 := h.blk.cell 0
  simp only [List.getElem?_cons_zero] at q0
  have hl1 : (L : Int) ≤ 1000 := by have := h.few; omega
  have hl0 : (0 : Int) ≤ (L : Int) := by omega
  have HO := hid h.own; have HFR := hid h.fr
  have HRD := hid h
  have hrbl := h.blk.lt
  have HRK := hid ((Blk.new w (mkC (0, 0)) TMk).frm (mbox _ (.cells #[.int .u32 0, .int .u64 0] TMk)) (fun h => h))
  have HBK := hid (show Blk ((w.alloc (.cells #[.int .u32 0, .int .u64 0] TMk)).alloc (.cells #[.int .u32 0, .int .u64 0] TMk)) (w.heap.size + 1) (mkC (0, 0)) TMk from blkM _ (0, 0) _ (by simp))
  have HF0 := hid ((mbox w (.cells #[.int .u32 0, .int .u64 0] TMk)).trans (mbox _ (.cells #[.int .u32 0, .int .u64 0] TMk)))
  clear h hL
  go_enter Try.func17, Try.ntmps17
  go_wp2
  try go_frame
  obtain ⟨bk, hbk⟩ : ∃ bk, w.heap.size + 1 = bk := ⟨_, rfl⟩
  obtain ⟨rk, hrk⟩ : ∃ rk, w.heap.size = rk := ⟨_, rfl⟩
  have HRKW := hid (show w.heap.size ≤ rk from Nat.le_of_eq hrk)
  have HNE := hid (show ¬ bk = rk ∧ ¬ rk = bk ∧ w.heap.size ≤ bk by omega)
  rw [hbk, hrk]
  rw [hbk] at HBK
  rw [hrk] at HRK
  clear hbk hrk q0 hrbl
  go_loopw [11, 12] (fun fv kv wr => ∃ (fd : Bool) (b : Mk) (k : Nat), k ≤ L ∧ fv = .bool fd ∧ kv = .int .i64 k ∧ Blk wr bk (mkC b) TMk ∧ Blk wr rk (mkC (0, 0)) TMk ∧ BestL (okA Ls least 1 but) (Ls.take k) fd b ∧ Frm (fun _ => False) w wr) (fun _ kv _ => L - (intOf kv).toNat)
  case atStart => exact ⟨false, (0, 0), 0, by omega, rfl, rfl, HBK.out, HRK.out, BestL.zero, HF0.out⟩
  case round =>
    clear HF0 HBK HRK
    obtain ⟨fd, ⟨bs, br⟩, k, hk, rfl, rfl, hb, hr, hp, hf⟩ := hrel
    have HP := hid hp; have HF := hid hf; have HB := hid hb; have HR := hid hr
    have HRQ := hid (HRD.out.quiet hf)
    have q0 := HRQ.out.blk.cell 0
    have hrbl := HRQ.out.blk.lt
    simp only [List.getElem?_cons_zero] at q0
    clear hp hf hb hr
    by_cases hlt : k < L
    · have HO2 := hid (HO.out.quiet HF.out)
      obtain ⟨⟨fr, s1, s2⟩, hx⟩ : ∃ x, Ls[k]? = some x := ⟨_, List.getElem?_eq_getElem (by rw [HL.out]; exact hlt)⟩
      obtain ⟨g, c, hv, hgc, hgm, _⟩ := HO2.out.at_ (by rw [HL.out]; omega)
      injection hv with e1 e2 e3
      subst e1 e3
      have c0 := HO2.out.cells k _ hx 0 (by decide); have c1 := HO2.out.cells k _ hx 1 (by decide); have c2 := HO2.out.cells k _ hx 2 (by decide)
      simp only [saC, List.getElem?_cons_succ, List.getElem?_cons_zero, Nat.add_zero] at c0 c1 c2
      rw [HL.out] at hgc
      have HX := hid hx; have HLT := hid hlt
      obtain ⟨hf0, hf3⟩ : 0 ≤ fr ∧ fr < 4 := HFR.out _ (List.mem_of_getElem? hx)
      have hkl : (k : Int) < (L : Int) := by omega
      have hk0 : (0 : Int) ≤ (k : Int) := by omega
      clear hx hlt e2 hk
      have hgl := HO2.out.lt rfl
      have b0 := HB.out.cell 0; have b1 := HB.out.cell 1; have z0 := HB.out.free 0; have z1 := HB.out.free 1; have hbl := HB.out.lt
      simp only [mkC, List.getElem?_cons_succ, List.getElem?_cons_zero] at b0 b1
      obtain ⟨C, hC⟩ : ∃ C : Int, (cntA Ls (s1, s2) but : Int) = C := ⟨_, rfl⟩
      have HC := hid hC
      have hC0 : C ≤ 1000 := by have h1 := cntA_le Ls (s1, s2) but; have := HL.out; omega
      have hC1 : 0 ≤ C := by omega
      clear hC
      cases fd
      · by_cases h2 : s1 < least
        · have HI := hid (HP.out.pass HX.out (fun h => by have h3 : least ≤ s1 := h.1; omega))
          go_wp2_with (go_at_call 18; (with_reducible refine (RCount_calls (HRQ.out.quiet (mbox _ _)) (s1, s2) but C HC.out).mono ?_); rintro e w5 ⟨rfl, rfl⟩; skip)
          go_roundw
          case rel => exact ⟨_, (_, br), k + 1, by have := HLT.out; omega, rfl, by first | rfl | go_num, HB.out.frm (mbox _ _) (fun h => h), HR.out.frm (mbox _ _) (fun h => h), HI.out, HF.out.trans (mbox _ _)⟩
          case measure => have := HLT.out; simp [intOf]; omega
        · by_cases h3 : C < 1
          · have HI := hid (HP.out.pass HX.out (fun h => by have h4 := h.2; rw [HC.out] at h4; omega))
            go_wp2_with (go_at_call 18; (with_reducible refine (RCount_calls (HRQ.out.quiet (mbox _ _)) (s1, s2) but C HC.out).mono ?_); rintro e w5 ⟨rfl, rfl⟩; skip)
            go_roundw
            case rel => exact ⟨_, (_, br), k + 1, by have := HLT.out; omega, rfl, by first | rfl | go_num, HB.out.frm (mbox _ _) (fun h => h), HR.out.frm (mbox _ _) (fun h => h), HI.out, HF.out.trans (mbox _ _)⟩
            case measure => have := HLT.out; simp [intOf]; omega
          · have HOB := hid (show okA Ls least 1 but (s1, s2) from ⟨by show least ≤ s1; omega, by rw [HC.out]; omega⟩)
            have HI := hid (HP.out.first HX.out HOB.out)
            go_wp2_with (go_at_call 18; (with_reducible refine (RCount_calls (HRQ.out.quiet (mbox _ _)) (s1, s2) but C HC.out).mono ?_); rintro e w5 ⟨rfl, rfl⟩; skip)
            go_roundw
            case rel => exact ⟨true, (s1, s2), k + 1, by have := HLT.out; omega, rfl, by first | rfl | go_num, ((HB.out.setCell 0 (.int .u32 s1)).setCell 1 (.int .u64 s2)).frm (mbox _ _) (fun h => h), (HR.out.frm (((Frm.refl (· = bk) wr).setCell ⟨bk, 0, none⟩ (.int .u32 s1) (.inr rfl)).setCell ⟨bk, 1, none⟩ (.int .u64 s2) (.inr rfl)) (fun e => HNE.out.2.1 e)).frm (mbox _ _) (fun h => h), HI.out, ((HF.out.setCell _ _ (.inl HNE.out.2.2)).setCell _ _ (.inl HNE.out.2.2)).trans (mbox _ _)⟩
            case measure => have := HLT.out; simp [intOf]; omega
      · skip
        by_cases h2 : s1 < least
        · have HI := hid (HP.out.pass HX.out (fun h => by have h3 : least ≤ s1 := h.1; omega))
          go_wp2_with (go_at_call 18; (with_reducible refine (RCount_calls (HRQ.out.quiet (mbox _ _)) (s1, s2) but C HC.out).mono ?_); rintro e w5 ⟨rfl, rfl⟩; skip)
          go_roundw
          case rel => exact ⟨_, (_, br), k + 1, by have := HLT.out; omega, rfl, by first | rfl | go_num, HB.out.frm (mbox _ _) (fun h => h), HR.out.frm (mbox _ _) (fun h => h), HI.out, HF.out.trans (mbox _ _)⟩
          case measure => have := HLT.out; simp [intOf]; omega
        · by_cases h3 : C < 1
          · have HI := hid (HP.out.pass HX.out (fun h => by have h4 := h.2; rw [HC.out] at h4; omega))
            go_wp2_with (go_at_call 18; (with_reducible refine (RCount_calls (HRQ.out.quiet (mbox _ _)) (s1, s2) but C HC.out).mono ?_); rintro e w5 ⟨rfl, rfl⟩; skip)
            go_roundw
            case rel => exact ⟨_, (_, br), k + 1, by have := HLT.out; omega, rfl, by first | rfl | go_num, HB.out.frm (mbox _ _) (fun h => h), HR.out.frm (mbox _ _) (fun h => h), HI.out, HF.out.trans (mbox _ _)⟩
            case measure => have := HLT.out; simp [intOf]; omega
          · have HOB := hid (show okA Ls least 1 but (s1, s2) from ⟨by show least ≤ s1; omega, by rw [HC.out]; omega⟩)
            by_cases h4 : bs < s1
            · have HI := hid (HP.out.take HX.out HOB.out (.inl h4))
              go_wp2_with (go_at_call 18; (with_reducible refine (RCount_calls (HRQ.out.quiet (mbox _ _)) (s1, s2) but C HC.out).mono ?_); rintro e w5 ⟨rfl, rfl⟩; skip)
              go_roundw
              case rel => exact ⟨true, (s1, s2), k + 1, by have := HLT.out; omega, rfl, by first | rfl | go_num, ((HB.out.setCell 0 (.int .u32 s1)).setCell 1 (.int .u64 s2)).frm (mbox _ _) (fun h => h), (HR.out.frm (((Frm.refl (· = bk) wr).setCell ⟨bk, 0, none⟩ (.int .u32 s1) (.inr rfl)).setCell ⟨bk, 1, none⟩ (.int .u64 s2) (.inr rfl)) (fun e => HNE.out.2.1 e)).frm (mbox _ _) (fun h => h), HI.out, ((HF.out.setCell _ _ (.inl HNE.out.2.2)).setCell _ _ (.inl HNE.out.2.2)).trans (mbox _ _)⟩
              case measure => have := HLT.out; simp [intOf]; omega
            · by_cases h5 : s1 = bs
              · subst h5
                by_cases h6 : s2 < br
                · have HI := hid (HP.out.take HX.out HOB.out (.inr ⟨rfl, h6⟩))
                  go_wp2_with (go_at_call 18; (with_reducible refine (RCount_calls (HRQ.out.quiet (mbox _ _)) (s1, s2) but C HC.out).mono ?_); rintro e w5 ⟨rfl, rfl⟩; skip)
                  go_roundw
                  case rel => exact ⟨true, (s1, s2), k + 1, by have := HLT.out; omega, rfl, by first | rfl | go_num, ((HB.out.setCell 0 (.int .u32 s1)).setCell 1 (.int .u64 s2)).frm (mbox _ _) (fun h => h), (HR.out.frm (((Frm.refl (· = bk) wr).setCell ⟨bk, 0, none⟩ (.int .u32 s1) (.inr rfl)).setCell ⟨bk, 1, none⟩ (.int .u64 s2) (.inr rfl)) (fun e => HNE.out.2.1 e)).frm (mbox _ _) (fun h => h), HI.out, ((HF.out.setCell _ _ (.inl HNE.out.2.2)).setCell _ _ (.inl HNE.out.2.2)).trans (mbox _ _)⟩
                  case measure => have := HLT.out; simp [intOf]; omega
                · have HI := hid (HP.out.worse HX.out (fun h => h.elim h4 (fun h => h6 h.2)))
                  go_wp2_with (go_at_call 18; (with_reducible refine (RCount_calls (HRQ.out.quiet (mbox _ _)) (s1, s2) but C HC.out).mono ?_); rintro e w5 ⟨rfl, rfl⟩; skip)
                  go_roundw
                  case rel => exact ⟨_, (_, br), k + 1, by have := HLT.out; omega, rfl, by first | rfl | go_num, HB.out.frm (mbox _ _) (fun h => h), HR.out.frm (mbox _ _) (fun h => h), HI.out, HF.out.trans (mbox _ _)⟩
                  case measure => have := HLT.out; simp [intOf]; omega
              · have e1 : (s1 == bs) = false := beq_eq_false_iff_ne.2 h5
                have HI := hid (HP.out.worse HX.out (fun h => h.elim h4 (fun h => h5 h.1)))
                go_wp2_with (go_at_call 18; (with_reducible refine (RCount_calls (HRQ.out.quiet (mbox _ _)) (s1, s2) but C HC.out).mono ?_); rintro e w5 ⟨rfl, rfl⟩; skip)
                go_roundw
                case rel => exact ⟨_, (_, br), k + 1, by have := HLT.out; omega, rfl, by first | rfl | go_num, HB.out.frm (mbox _ _) (fun h => h), HR.out.frm (mbox _ _) (fun h => h), HI.out, HF.out.trans (mbox _ _)⟩
                case measure => have := HLT.out; simp [intOf]; omega
    · have hke : k = L := by omega
      subst hke
      have hpe := HP.out
      rw [List.take_of_length_le (show Ls.length ≤ k by rw [HL.out]; exact Nat.le_refl _)] at hpe
      have HPE := hid hpe; clear hpe
      have b0 := HB.out.cell 0; have b1 := HB.out.cell 1; have r0 := HR.out.cell 0; have r1 := HR.out.cell 1
      simp only [mkC, List.getElem?_cons_succ, List.getElem?_cons_zero] at b0 b1 r0 r1
      have z0 := HR.out.free 0; have z1 := HR.out.free 1
      have hne := HNE.out.1; have hne2 := HNE.out.2.1
      clear hk hlt
      go_wp2
      (try simp only [Exit.inBlock, Exit.then])
      refine bodyPost_ret (results_cell2 rfl _ _ rk TMk [.int .u32 bs, .int .u64 br] _ (.bool fd) rfl rfl ((HR.out.setCell 0 (.int .u32 bs)).setCell 1 (.int .u64 br)) Try.underlying30 (by kernel_rfl)) rfl ⟨(bs, br), fd, rfl, HPE.out, (HF.out.setCell _ _ (.inl HRKW.out)).setCell _ _ (.inl HRKW.out)⟩
end Go.Proofs.Ytiffhkhmkigolaa
