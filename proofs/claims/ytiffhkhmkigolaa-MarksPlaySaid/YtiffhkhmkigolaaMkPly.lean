/- MarksPlay, walked: every row of marks and drops: how many have which, which is best for whom, as the document says. For every row of at most 80 steps, every least place, every number and every one that is left out. -/
import Derived.Test.YtiffhkhmkigolaaMkBig
import Derived.Test.YtiffhkhmkigolaaTypes
namespace Go.Proofs.Ytiffhkhmkigolaa
open Go.RowKit Go.ChangeShapes
set_option linter.unusedVariables false
set_option linter.unusedSimpArgs false
set_option maxRecDepth 100000
abbrev TSt : Nat := 43
theorem neqMk (w : World) (a b : Int) : (binOp .neq TMk (.agg #[.int .u32 a, .int .u64 b]) (.agg #[.int .u32 a, .int .u64 b])).run Try.prog w = .ok (.bool false) w := by
  go_simp
theorem add_both {H H' : Nat → List Mk} {Ls Ls' : List Sa} {F : Int} {m : Mk} {z z2 : Bool} (hr : Rel H Ls) (h1 : (badA F m ∧ z = false ∧ H' = H) ∨ (¬ badA F m ∧ ∃ n : Nat, n < 4 ∧ F = n ∧ z = !hasS m.1 (H n) ∧ H' = addH H n m))
    (h2 : (badA F m ∧ z2 = false ∧ Ls' = Ls) ∨ (¬ badA F m ∧ ∃ n : Nat, n < 4 ∧ F = n ∧ z2 = !hasS m.1 (H n) ∧ Rel (addH H n m) Ls')) : z2 = z ∧ Rel H' Ls' := by
  rcases h1 with ⟨hb, rfl, rfl⟩ | ⟨hb, n, hn, hF, rfl, rfl⟩
  · rcases h2 with ⟨_, rfl, rfl⟩ | ⟨hb2, _⟩
    · exact ⟨rfl, hr⟩
    · exact absurd hb hb2
  · rcases h2 with ⟨hb2, _⟩ | ⟨_, n2, hn2, hF2, rfl, h3⟩
    · exact absurd hb2 hb
    · obtain rfl : n = n2 := by omega
      exact ⟨rfl, h3⟩
theorem MTop_all {w : World} {lb mb N : Nat} {H : Nat → List Mk} {Ls : List Sa} (h : IsMs w lb mb N H) (hr : Rel H Ls) (F : Int) (hF : 0 ≤ F) (z : Int) (hz : topA Ls F = z) :
    Calls Try.prog 19 #[.pointer (some ⟨lb, 0, none⟩), .int .u8 F] w fun e w' => e = .returned (.int .u32 z) ∧ Frm (fun _ => False) w w' := by
  by_cases h4 : F < 4
  · obtain ⟨n, hn⟩ : ∃ n : Nat, F = n := ⟨F.toNat, by omega⟩
    exact MTop_calls h.im n (by omega) F hn (St_of h.ok n (by omega)) z (by rw [← hz, hn]; exact (hr.top h.ok n (by omega)).symm)
  · rw [hr.top_big F (by omega)] at hz
    subst hz
    exact Top_big h.im F (by omega)
theorem MForget_all {w : World} {lb mb N : Nat} {H : Nat → List Mk} {Ls : List Sa} (h : IsMs w lb mb N H) (hr : Rel H Ls) (hN : N ≤ 90000) (F : Int) (hF : 0 ≤ F) :
    Calls Try.prog 15 #[.pointer (some ⟨lb, 0, none⟩), .int .u8 F] w fun e w' => e = .returned (.tuple #[]) ∧ (∃ H', IsMs w' lb mb (N + 2) H' ∧ Rel H' (Ls.filter fun s : Sa => !decide (s.1 = F))) ∧ Frm (· = mb) w w' := by
  by_cases h4 : F < 4
  · obtain ⟨n, hn⟩ : ∃ n : Nat, F = n := ⟨F.toNat, by omega⟩
    subst hn
    refine (MForget_calls h hN n (by omega) n rfl).mono ?_
    rintro e w' ⟨rfl, h1, h2⟩
    exact ⟨rfl, ⟨_, h1, hr.forget n⟩, h2⟩
  · refine (Forget_big h.im F (by omega)).mono ?_
    rintro e w' ⟨rfl, f⟩
    exact ⟨rfl, ⟨H, (h.quiet f).more (by omega), by rw [hr.forget_big F (by omega)]; exact hr⟩, f.mono (fun _ _ h => h.elim)⟩
theorem MLen_z2 {w : World} {lb mb N : Nat} {H : Nat → List Mk} (h : IsMs w lb mb N H) (z : Int) (hz : ((sum4 fun i => (H i).length : Nat) : Int) = z) :
    Calls Try.prog 21 #[.pointer (some ⟨lb, 0, none⟩)] w fun e w' => e = .returned (.int .i64 z) ∧ Frm (fun _ => False) w w' := hz ▸ MLen_calls h
set_option maxHeartbeats 32000000 in
theorem MarksPlay_walk (a0 : Option Addr) (c0 : Nat) (z0 : List (Int × Int × Int × Int × Unit)) (least many but : Int) (w : World) (h0 : SlK c43 w a0 c0 z0) (w1_ : (Lit.int .u32 least).wf = true) (w2_ : (Lit.int .i64 many).wf = true) (w3_ : (Lit.int .i64 but).wf = true) :
    Calls Try.prog 5 #[.slice a0 z0.length c0, .int .u32 least, .int .i64 many, .int .i64 but] w fun e w' => e = .returned (.bool true) ∧ Below w.heap.size w w' := by
  have hle := h0.le
  have hsm := h0.small
  clear w1_ w2_ w3_
  by_cases hlen : z0.length > 80
  · go_enter Try.func5, Try.ntmps5
    go_wp2_with (go_at_call 7; (with_reducible refine (known_calls _).mono ?_); rintro e w1 ⟨rfl, f'⟩; have HW1 := hid f'.size; have HF := hid (f'.below (B := w.heap.size) (Nat.le_refl _) (fun k hk hn => hn)); clear f')
    go_ret
    exact ⟨rfl, HF.out⟩
  go_enter Try.func5, Try.ntmps5
  go_wp2_with (first
    | (go_at_call 7; (with_reducible refine (known_calls _).mono ?_); rintro e w1 ⟨rfl, f'⟩; have HW1 := hid f'.size; have HF := hid (f'.below (B := w.heap.size) (Nat.le_refl _) (fun k hk hn => hn)); clear f')
    | (go_at_call 8; (with_reducible refine (MsNew_calls _).mono ?_); rintro e w2 ⟨rfl, hv, hf⟩; have HE := hid hv; have HW2 := hid (show w1.heap.size + 1 < w2.heap.size from hv.im.lt.1); have HF2 := hid (HF.out.trans (hf.below HF.out.size (fun k hk hn => hn))); clear hv hf HF; have HF := HF2; clear HF2))
  have HH0 := hid h0
  have HZ80 := hid (show z0.length ≤ 80 by omega)
  have HD := hid (show IsRd (w2.alloc (.cells #[.slice none 0 0] TRm)) w2.heap.size (.slice none 0 0) [] from ⟨Blk.new w2 [.slice none 0 0] TRm, OwnA.nil _ _, Nat.zero_le _, fun s h => absurd h (by simp)⟩)
  have HE2 := hid (HE.out.quiet (mbox w2 (.cells #[.slice none 0 0] TRm)))
  have HF2 := hid (HF.out.alloc HF.out.size (.cells #[.slice none 0 0] TRm))
  clear HE HF
  have HE := HE2; have HF := HF2
  clear HE2 HF2
  obtain ⟨lb, hlb⟩ : ∃ lb, w1.heap.size + 1 = lb := ⟨_, rfl⟩
  obtain ⟨mb, hmb⟩ : ∃ mb, w1.heap.size = mb := ⟨_, rfl⟩
  obtain ⟨rb, hrb⟩ : ∃ rb, w2.heap.size = rb := ⟨_, rfl⟩
  have HXB := hid (show w.heap.size ≤ mb ∧ w.heap.size ≤ rb ∧ lb < rb ∧ mb < rb by have := HW1.out; have := HW2.out; omega)
  rw [hlb, hmb] at HE
  rw [hrb] at HD
  rw [hlb, hrb]
  clear hlb hmb hrb HW1 HW2 h0 hlen
  go_loopw [11] (fun iv wr => ∃ (k : Nat) (H : Nat → List Mk) (Ls : List Sa) (v : Value), k ≤ z0.length ∧ iv = .int .i64 k ∧ IsMs wr lb mb (2 * k) H ∧ IsRd wr rb v Ls ∧ Rel H Ls ∧ Frm (fun k => w.heap.size ≤ k) w wr) (fun i _ => z0.length - (intOf i).toNat)
  case atStart => exact ⟨0, H0, [], _, by omega, rfl, HE.out, HD.out, Rel.zero, Frm.of_below HF.out (fun k _ h => h)⟩
  case round =>
    clear HE HD HF
    obtain ⟨k, H, Ls, v, hk, rfl, he, hd, hr, hf⟩ := hrel
    have HE := hid he; have HD := hid hd; have HR := hid hr; have HF := hid hf
    have HOK0 := hid he.ok
    clear he hd hr hf
    by_cases hlt : k < z0.length
    · obtain ⟨ga, off, rfl, hga, hc⟩ := HH0.out.at_ (by omega)
      obtain ⟨⟨what, F, s, r, u⟩, hx⟩ : ∃ x, z0[k]? = some x := ⟨_, List.getElem?_eq_getElem hlt⟩
      obtain ⟨cs, hk1, hcell⟩ := hc k _ hx
      obtain ⟨_, g0, v0, g1, v1, g2, v2, g3, v3⟩ := k43 hk1
      dsimp only at g0 g1 g2 g3 v0 v1 v2 v3
      rw [cells43] at hcell
      have a0' := (HF.out.cell (p := ⟨ga, off + k * 4 + 0, none⟩) hga (by show ¬ w.heap.size ≤ ga; omega)).trans (hcell 0 _ g0)
      have a1' := (HF.out.cell (p := ⟨ga, off + k * 4 + 1, none⟩) hga (by show ¬ w.heap.size ≤ ga; omega)).trans (hcell 1 _ g1)
      have a2' := (HF.out.cell (p := ⟨ga, off + k * 4 + 2, none⟩) hga (by show ¬ w.heap.size ≤ ga; omega)).trans (hcell 2 _ g2)
      have a3' := (HF.out.cell (p := ⟨ga, off + k * 4 + 3, none⟩) hga (by show ¬ w.heap.size ≤ ga; omega)).trans (hcell 3 _ g3)
      simp only [Nat.add_zero] at a0'
      have HOK := hid (show okK (s, r) by
        simp [Lit.wf, IntKind.min, IntKind.max, IntKind.bits, IntKind.signed] at v2 v3
        exact ⟨⟨by show 0 ≤ s; omega, by show s ≤ 4294967295; omega⟩, ⟨by show 0 ≤ r; omega, by show r ≤ 18446744073709551615; omega⟩⟩)
      have HF0 := hid (show 0 ≤ F by simp [Lit.wf, IntKind.min, IntKind.max, IntKind.bits, IntKind.signed] at v1; omega)
      have HLT := hid hlt
      have hkl : (k : Int) < (z0.length : Int) := by omega
      have hk80 : (k : Int) ≤ 80 := by have := HZ80.out; omega
      clear hc hx hk1 hcell g0 g1 g2 g3 v0 v1 v2 v3 hlt hk hga
      by_cases hw4 : what ≤ 4
      · go_wp2_with fail
        have hd1 := hid (HE.out.quiet ((mbox wr (.cells #[.int .i64 what, .int .u8 F, .int .u32 s, .int .u64 r] TSt)).trans (frm_drew _))); have hd2 := hid (HD.out.quiet ((mbox wr (.cells #[.int .i64 what, .int .u8 F, .int .u32 s, .int .u64 r] TSt)).trans (frm_drew _))); have hd3 := hid ((Blk.new wr [.int .i64 what, .int .u8 F, .int .u32 s, .int .u64 r] TSt).frm (frm_drew _) (fun h => h)); have hd4 := hid (HF.out.trans' ((mbox wr (.cells #[.int .i64 what, .int .u8 F, .int .u32 s, .int .u64 r] TSt)).trans (frm_drew _)) (fun _ _ h => h.elim))
        have HSX := hid (show ¬ wr.heap.size = rb ∧ ¬ wr.heap.size = mb by have h1 := HD.out.blk.lt; have := HXB.out; omega)
        obtain ⟨w3, hw3⟩ : ∃ w3, wr.alloc (.cells #[.int .i64 what, .int .u8 F, .int .u32 s, .int .u64 r] TSt) = w3 := ⟨_, rfl⟩
        obtain ⟨sb, hsb⟩ : ∃ sb, wr.heap.size = sb := ⟨_, rfl⟩
        rw [hw3, hsb]
        rw [show wr.alloc (.cells [Value.int .i64 what, .int .u8 F, .int .u32 s, .int .u64 r].toArray TSt) = w3 from hw3, hsb] at hd3
        rw [hw3] at hd1 hd2 hd4
        rw [hsb] at HSX
        clear HE HD HF hw3 hsb
        have HE := hd1; have HD := hd2; have HSB := hd3; have HF := hd4
        clear hd1 hd2 hd3 hd4
        have s1' := HSB.out.cell 1; have s2' := HSB.out.cell 2; have s3' := HSB.out.cell 3; (simp only [List.getElem?_cons_succ, List.getElem?_cons_zero] at s1' s2' s3')
        go_region_held3 (fun wx => wx.cell? ⟨sb, 1, none⟩ = some (.int .u8 F) ∧ wx.cell? ⟨sb, 2, none⟩ = some (.int .u32 s) ∧ wx.cell? ⟨sb, 3, none⟩ = some (.int .u64 r)) (first | go_keep | exact ⟨s1', s2', s3'⟩) (first
          | (go_at_call 9; (with_reducible refine (MAdd_all HE.out (by have := HLT.out; have := HZ80.out; omega) F HF0.out (s, r) HOK.out).mono ?_); rintro e w4 ⟨z, H2, rfl, he, f', hcs⟩; clear s1' s2' s3'; have HCS := hid hcs; have n1 := hid he; have n2 := hid (HD.out.frm f' (fun q hq e => by (rcases hq with hq | hq; (have := HXB.out; omega); (exact HD.out.own.off q hq (by show q ≤ rb; rw [show q = mb from e]; exact Nat.le_of_lt HXB.out.2.2.2))))); have n3 := hid (HSB.out.frm f' (fun e => HSX.out.2 e)); have n4 := hid (HF.out.trans' f' (fun q hq e => by have := HXB.out; have : q = mb := e; omega)); clear HE HD HSB HF he f' hcs; have HE := n1; have HD := n2; have HSB := n3; have HF := n4; clear n1 n2 n3 n4; have s1' := HSB.out.cell 1; have s2' := HSB.out.cell 2; have s3' := HSB.out.cell 3; (simp only [List.getElem?_cons_succ, List.getElem?_cons_zero] at s1' s2' s3'))
          | (go_at_call 12; (with_reducible refine (RAdd_all HD.out HR.out HOK0.out F HF0.out (s, r) HOK.out).mono ?_); rintro e w4 ⟨z2, v2, Ls2, rfl, hd, f', hcs2⟩; obtain ⟨hzz, hrr⟩ := add_both HR.out HCS.out hcs2; subst hzz; clear s1' s2' s3'; have HR2 := hid hrr; have n1 := hid (HE.out.frm f' (fun q hq e => by (rcases e with e | e; (rcases hq with hq | hq <;> have := HXB.out <;> omega); (exact HD.out.own.off q e (by show q ≤ rb; rcases hq with hq | hq <;> have := HXB.out <;> omega))))); have n2 := hid hd; have n3 := hid (HSB.out.frm f' (fun e => by rcases e with e | e; exact HSX.out.1 e; exact HD.out.own.not_blk HSB.out (by decide) e rfl)); have n4 := hid (HF.out.trans' f' (fun q hq e => by rcases e with e | e; (have := HXB.out; have : q = rb := e; omega); (have := HD.out.own.off q e; have := HXB.out; show w.heap.size ≤ q; omega))); clear HE HD HSB HF HCS hd f' hcs2 hrr; have HE := n1; have HD := n2; have HSB := n3; have HF := n4; clear n1 n2 n3 n4; have s1' := HSB.out.cell 1; have s2' := HSB.out.cell 2; have s3' := HSB.out.cell 3; (simp only [List.getElem?_cons_succ, List.getElem?_cons_zero] at s1' s2' s3')))
        go_wp2_with (first
          | (go_at_call 10; (with_reducible refine (MBest_any HE.out.im HE.out.okK least many but).mono ?_); rintro e w4 ⟨b, fd, rfl, hb, f'⟩; obtain ⟨bs, br⟩ := b; clear s1' s2' s3'; have HBST := hid hb; have n1 := hid (HE.out.quiet f'); have n2 := hid (HD.out.quiet f'); have n3 := hid (HSB.out.frm f' (fun h => h)); have n4 := hid (HF.out.trans' f' (fun _ _ h => h.elim)); clear HE HD HSB HF f'; have HE := n1; have HD := n2; have HSB := n3; have HF := n4; clear n1 n2 n3 n4; clear hb; have s1' := HSB.out.cell 1; have s2' := HSB.out.cell 2; have s3' := HSB.out.cell 3; (simp only [List.getElem?_cons_succ, List.getElem?_cons_zero] at s1' s2' s3'))
          | (go_at_call 17; (with_reducible refine (RBest_any (HD.out.quiet (mbox _ _)) least many but).mono ?_); rintro e w5 ⟨b', fd', rfl, hb', f'⟩; obtain ⟨hfd, hbb⟩ := HR2.out.best HBST.out hb'; subst hfd; subst hbb; clear s1' s2' s3'; have HXK := hid ((blkM w4 (bs, br) w4.heap.size rfl).frm f' (fun h => h)); have HWL := hid (show w4.heap.size < w5.heap.size from HXK.out.lt); have n1 := hid ((HE.out.quiet (mbox _ _)).quiet f'); have n2 := hid ((HD.out.quiet (mbox _ _)).quiet f'); have n3 := hid ((HSB.out.frm (mbox _ _) (fun h => h)).frm f' (fun h => h)); have n4 := hid ((HF.out.trans' (mbox _ _) (fun _ _ h => h.elim)).trans' f' (fun _ _ h => h.elim)); clear HE HD HSB HF f' hb'; have HE := n1; have HD := n2; have HSB := n3; have HF := n4; clear n1 n2 n3 n4; have s1' := HSB.out.cell 1; have s2' := HSB.out.cell 2; have s3' := HSB.out.cell 3; (simp only [List.getElem?_cons_succ, List.getElem?_cons_zero] at s1' s2' s3')))
        have hyf : Frm (fun _ => False) w5 (w5.alloc (.cells #[.int .u32 bs, .int .u64 br] TMk)).drew := (mbox _ _).trans (frm_drew _)
        have n1 := hid (HE.out.quiet hyf); have n2 := hid (HD.out.quiet hyf); have n3 := hid (HSB.out.frm hyf (fun h => h)); have n4 := hid (HF.out.trans' hyf (fun _ _ h => h.elim)); have n5 := hid (HXK.out.frm hyf (fun h => h)); have HYK := hid ((blkM w5 (bs, br) w5.heap.size rfl).frm (frm_drew _) (fun h => h))
        clear HE HD HSB HF HXK hyf s1' s2' s3'
        have HE := n1; have HD := n2; have HSB := n3; have HF := n4; have HXK := n5
        clear n1 n2 n3 n4 n5
        obtain ⟨yb, hyb⟩ : ∃ yb, w5.heap.size = yb := ⟨_, rfl⟩
        obtain ⟨xb, hxb⟩ : ∃ xb, w4.heap.size = xb := ⟨_, rfl⟩
        obtain ⟨w6, hw6⟩ : ∃ w6, w5.alloc (.cells #[.int .u32 bs, .int .u64 br] TMk) = w6 := ⟨_, rfl⟩
        rw [hyb, hxb, hw6]
        rw [hw6] at HE HD HSB HF HXK
        rw [hxb] at HXK
        rw [show w5.alloc (.cells #[.int .u32 (bs, br).1, .int .u64 (bs, br).2] TMk) = w6 from hw6, hyb] at HYK
        clear hyb hxb hw6 HWL
        obtain ⟨CC, hCC⟩ : ∃ CC, (cntA Ls2 (s, r) but : Int) = CC := ⟨_, rfl⟩
        obtain ⟨TT, hTT⟩ : ∃ TT, topA Ls2 F = TT := ⟨_, rfl⟩
        obtain ⟨LL, hLL⟩ : ∃ LL : Int, ((Ls2).length : Int) = LL := ⟨_, rfl⟩
        have HCD := hid hCC; have HCC := hid ((HR2.out.count (s, r) but).symm.trans hCC); have HTT := hid hTT; have HLD := hid hLL
        have HLL := hid (show ((sum4 fun i => (H2 i).length : Nat) : Int) = LL by rw [← HR2.out.len HE.out.ok]; exact hLL)
        have hneq := fun w => neqMk w bs br
        clear hCC hTT hLL
        have s1' := HSB.out.cell 1
        have s2' := HSB.out.cell 2
        have s3' := HSB.out.cell 3
        simp only [List.getElem?_cons_succ, List.getElem?_cons_zero] at s1' s2' s3'
        have x0 := HXK.out.cell 0
        have x1 := HXK.out.cell 1
        have y0 := HYK.out.cell 0
        have y1 := HYK.out.cell 1
        simp only [mkC, List.getElem?_cons_succ, List.getElem?_cons_zero] at x0 x1 y0 y1
        go_region_held3 (fun wx => wx.cell? ⟨sb, 1, none⟩ = some (.int .u8 F) ∧ wx.cell? ⟨sb, 2, none⟩ = some (.int .u32 s) ∧ wx.cell? ⟨sb, 3, none⟩ = some (.int .u64 r) ∧ wx.cell? ⟨xb, 0, none⟩ = some (.int .u32 bs) ∧ wx.cell? ⟨xb, 1, none⟩ = some (.int .u64 br) ∧ wx.cell? ⟨yb, 0, none⟩ = some (.int .u32 bs) ∧ wx.cell? ⟨yb, 1, none⟩ = some (.int .u64 br)) (first | go_keep | exact ⟨s1', s2', s3', x0, x1, y0, y1⟩) (first
          | (go_at_call 11; (with_reducible refine (MCount_calls HE.out.im (s, r) HOK.out but CC HCC.out).mono ?_); rintro e w7 ⟨rfl, rfl⟩; skip)
          | (go_at_call 18; (with_reducible refine (RCount_calls HD.out (s, r) but CC HCD.out).mono ?_); rintro e w7 ⟨rfl, rfl⟩; skip)
          | (go_at_call 19; (with_reducible refine (MTop_all HE.out HR2.out F HF0.out TT HTT.out).mono ?_); rintro e w7 ⟨rfl, f'⟩; clear s1' s2' s3' x0 x1 y0 y1; have n1 := hid (HE.out.quiet f'); have n2 := hid (HD.out.quiet f'); have n3 := hid (HSB.out.frm f' (fun h => h)); have n4 := hid (HF.out.trans' f' (fun _ _ h => h.elim)); have n5 := hid (HXK.out.frm f' (fun h => h)); have n6 := hid (HYK.out.frm f' (fun h => h)); clear HE HD HSB HF HXK HYK f'; have HE := n1; have HD := n2; have HSB := n3; have HF := n4; have HXK := n5; have HYK := n6; clear n1 n2 n3 n4 n5 n6; have s1' := HSB.out.cell 1; have s2' := HSB.out.cell 2; have s3' := HSB.out.cell 3; (simp only [List.getElem?_cons_succ, List.getElem?_cons_zero] at s1' s2' s3'); have x0 := HXK.out.cell 0; have x1 := HXK.out.cell 1; have y0 := HYK.out.cell 0; have y1 := HYK.out.cell 1; (simp only [mkC, List.getElem?_cons_succ, List.getElem?_cons_zero] at x0 x1 y0 y1))
          | (go_at_call 20; (with_reducible refine (RTop_calls HD.out F TT HTT.out).mono ?_); rintro e w7 ⟨rfl, rfl⟩; skip)
          | (go_at_call 21; (with_reducible refine (MLen_z2 HE.out LL HLL.out).mono ?_); rintro e w7 ⟨rfl, f'⟩; clear s1' s2' s3' x0 x1 y0 y1; have n1 := hid (HE.out.quiet f'); have n2 := hid (HD.out.quiet f'); have n3 := hid (HSB.out.frm f' (fun h => h)); have n4 := hid (HF.out.trans' f' (fun _ _ h => h.elim)); have n5 := hid (HXK.out.frm f' (fun h => h)); have n6 := hid (HYK.out.frm f' (fun h => h)); clear HE HD HSB HF HXK HYK f'; have HE := n1; have HD := n2; have HSB := n3; have HF := n4; have HXK := n5; have HYK := n6; clear n1 n2 n3 n4 n5 n6; have s1' := HSB.out.cell 1; have s2' := HSB.out.cell 2; have s3' := HSB.out.cell 3; (simp only [List.getElem?_cons_succ, List.getElem?_cons_zero] at s1' s2' s3'); have x0 := HXK.out.cell 0; have x1 := HXK.out.cell 1; have y0 := HYK.out.cell 0; have y1 := HYK.out.cell 1; (simp only [mkC, List.getElem?_cons_succ, List.getElem?_cons_zero] at x0 x1 y0 y1))
          | (go_at_call 22; (with_reducible refine (RLen_calls HD.out LL HLD.out).mono ?_); rintro e w7 ⟨rfl, rfl⟩; skip))
        go_wp2
        go_roundw
        case rel => exact ⟨k + 1, _, _, _, by have := HLT.out; omega, rfl, HE.out.more (by omega), HD.out, HR2.out, HF.out⟩
        case measure => have := HLT.out; simp [intOf]; omega
      · by_cases hw5 : what = 5
        · subst hw5
          go_wp2_with (first
            | (go_at_call 13; have HSB := hid (show Blk _ wr.heap.size [.int .i64 5, .int .u8 F, .int .u32 s, .int .u64 r] TSt from Blk.new wr [.int .i64 5, .int .u8 F, .int .u32 s, .int .u64 r] TSt); have HSX := hid (show ¬ wr.heap.size = rb ∧ ¬ wr.heap.size = mb by have h1 := HD.out.blk.lt; have := HXB.out; omega); have hd1 := hid (HE.out.quiet (mbox wr (.cells #[.int .i64 5, .int .u8 F, .int .u32 s, .int .u64 r] TSt))); have hd2 := hid (HD.out.quiet (mbox wr (.cells #[.int .i64 5, .int .u8 F, .int .u32 s, .int .u64 r] TSt))); have hd4 := hid (HF.out.trans' (mbox wr (.cells #[.int .i64 5, .int .u8 F, .int .u32 s, .int .u64 r] TSt)) (fun _ _ h => h.elim)); clear HE HD HF; have HE := hd1; have HD := hd2; have HF := hd4; clear hd1 hd2 hd4; (with_reducible refine (MDrop_calls HE.out s).mono ?_); rintro e w4 ⟨rfl, he, f'⟩; have n1 := hid (he); have n2 := hid (HD.out.frm f' (fun q hq e => by (rcases hq with hq | hq; (have := HXB.out; omega); (exact HD.out.own.off q hq (by show q ≤ rb; rw [show q = mb from e]; exact Nat.le_of_lt HXB.out.2.2.2))))); have n3 := hid (HSB.out.frm f' (fun e => HSX.out.2 e)); have n4 := hid (HF.out.trans' f' (fun q hq e => by have := HXB.out; have : q = mb := e; omega)); clear HE HD HSB HF f'; have HE := n1; have HD := n2; have HSB := n3; have HF := n4; clear n1 n2 n3 n4; clear he; have hsl := HSB.out.lt; have s1' := HSB.out.cell 1; have s2' := HSB.out.cell 2; have s3' := HSB.out.cell 3; (simp only [List.getElem?_cons_succ, List.getElem?_cons_zero] at s1' s2' s3'))
            | (go_at_call 14; (with_reducible refine (RDrop_calls HD.out s).mono ?_); rintro e w4 ⟨rfl, ⟨v2, hd⟩, f'⟩; clear s1' s2' s3' hsl; have HR2 := hid (HR.out.drop s); have n1 := hid (HE.out.frm f' (fun q hq e => by rcases hq with hq | hq <;> have := HXB.out <;> have : q = rb := e <;> omega)); have n2 := hid (hd); have n3 := hid (HSB.out.frm f' (fun e => HSX.out.1 e)); have n4 := hid (HF.out.trans' f' (fun q hq e => by have := HXB.out; have : q = rb := e; omega)); clear HE HD HSB HF f'; have HE := n1; have HD := n2; have HSB := n3; have HF := n4; clear n1 n2 n3 n4; clear hd; have hsl := HSB.out.lt; have s1' := HSB.out.cell 1; have s2' := HSB.out.cell 2; have s3' := HSB.out.cell 3; (simp only [List.getElem?_cons_succ, List.getElem?_cons_zero] at s1' s2' s3'))
            | (go_at_call 10; (with_reducible refine (MBest_any HE.out.im HE.out.okK least many but).mono ?_); rintro e w4 ⟨b, fd, rfl, hb, f'⟩; obtain ⟨bs, br⟩ := b; clear s1' s2' s3'; have HBST := hid hb; have n1 := hid (HE.out.quiet f'); have n2 := hid (HD.out.quiet f'); have n3 := hid (HSB.out.frm f' (fun h => h)); have n4 := hid (HF.out.trans' f' (fun _ _ h => h.elim)); clear HE HD HSB HF f'; have HE := n1; have HD := n2; have HSB := n3; have HF := n4; clear n1 n2 n3 n4; clear hb; have s1' := HSB.out.cell 1; have s2' := HSB.out.cell 2; have s3' := HSB.out.cell 3; (simp only [List.getElem?_cons_succ, List.getElem?_cons_zero] at s1' s2' s3'))
            | (go_at_call 17; (with_reducible refine (RBest_any (HD.out.quiet (mbox _ _)) least many but).mono ?_); rintro e w5 ⟨b', fd', rfl, hb', f'⟩; obtain ⟨hfd, hbb⟩ := HR2.out.best HBST.out hb'; subst hfd; subst hbb; clear s1' s2' s3'; have HXK := hid ((blkM w4 (bs, br) w4.heap.size rfl).frm f' (fun h => h)); have HWL := hid (show w4.heap.size < w5.heap.size from HXK.out.lt); have n1 := hid ((HE.out.quiet (mbox _ _)).quiet f'); have n2 := hid ((HD.out.quiet (mbox _ _)).quiet f'); have n3 := hid ((HSB.out.frm (mbox _ _) (fun h => h)).frm f' (fun h => h)); have n4 := hid ((HF.out.trans' (mbox _ _) (fun _ _ h => h.elim)).trans' f' (fun _ _ h => h.elim)); clear HE HD HSB HF f' hb'; have HE := n1; have HD := n2; have HSB := n3; have HF := n4; clear n1 n2 n3 n4; have s1' := HSB.out.cell 1; have s2' := HSB.out.cell 2; have s3' := HSB.out.cell 3; (simp only [List.getElem?_cons_succ, List.getElem?_cons_zero] at s1' s2' s3')))
          have hyf : Frm (fun _ => False) w5 (w5.alloc (.cells #[.int .u32 bs, .int .u64 br] TMk)).drew := (mbox _ _).trans (frm_drew _)
          have n1 := hid (HE.out.quiet hyf); have n2 := hid (HD.out.quiet hyf); have n3 := hid (HSB.out.frm hyf (fun h => h)); have n4 := hid (HF.out.trans' hyf (fun _ _ h => h.elim)); have n5 := hid (HXK.out.frm hyf (fun h => h)); have HYK := hid ((blkM w5 (bs, br) w5.heap.size rfl).frm (frm_drew _) (fun h => h))
          clear HE HD HSB HF HXK hyf s1' s2' s3'
          have HE := n1; have HD := n2; have HSB := n3; have HF := n4; have HXK := n5
          clear n1 n2 n3 n4 n5
          obtain ⟨yb, hyb⟩ : ∃ yb, w5.heap.size = yb := ⟨_, rfl⟩
          obtain ⟨xb, hxb⟩ : ∃ xb, w4.heap.size = xb := ⟨_, rfl⟩
          obtain ⟨w6, hw6⟩ : ∃ w6, w5.alloc (.cells #[.int .u32 bs, .int .u64 br] TMk) = w6 := ⟨_, rfl⟩
          rw [hyb, hxb, hw6]
          rw [hw6] at HE HD HSB HF HXK
          rw [hxb] at HXK
          rw [show w5.alloc (.cells #[.int .u32 (bs, br).1, .int .u64 (bs, br).2] TMk) = w6 from hw6, hyb] at HYK
          obtain ⟨sb, hsb⟩ : ∃ sb, wr.heap.size = sb := ⟨_, rfl⟩
          rw [hsb]
          rw [hsb] at HSB
          clear hsb hsl HSX
          clear hyb hxb hw6 HWL
          obtain ⟨CC, hCC⟩ : ∃ CC, (cntA (Ls.filter fun s_ : Sa => decide (s ≤ s_.2.1)) (s, r) but : Int) = CC := ⟨_, rfl⟩
          obtain ⟨TT, hTT⟩ : ∃ TT, topA (Ls.filter fun s_ : Sa => decide (s ≤ s_.2.1)) F = TT := ⟨_, rfl⟩
          obtain ⟨LL, hLL⟩ : ∃ LL : Int, (((Ls.filter fun s_ : Sa => decide (s ≤ s_.2.1))).length : Int) = LL := ⟨_, rfl⟩
          have HCD := hid hCC; have HCC := hid ((HR2.out.count (s, r) but).symm.trans hCC); have HTT := hid hTT; have HLD := hid hLL
          have HLL := hid (show ((sum4 fun i => ((dropH s H) i).length : Nat) : Int) = LL by rw [← HR2.out.len HE.out.ok]; exact hLL)
          have hneq := fun w => neqMk w bs br
          clear hCC hTT hLL
          have s1' := HSB.out.cell 1
          have s2' := HSB.out.cell 2
          have s3' := HSB.out.cell 3
          simp only [List.getElem?_cons_succ, List.getElem?_cons_zero] at s1' s2' s3'
          have x0 := HXK.out.cell 0
          have x1 := HXK.out.cell 1
          have y0 := HYK.out.cell 0
          have y1 := HYK.out.cell 1
          simp only [mkC, List.getElem?_cons_succ, List.getElem?_cons_zero] at x0 x1 y0 y1
          go_region_held3 (fun wx => wx.cell? ⟨sb, 1, none⟩ = some (.int .u8 F) ∧ wx.cell? ⟨sb, 2, none⟩ = some (.int .u32 s) ∧ wx.cell? ⟨sb, 3, none⟩ = some (.int .u64 r) ∧ wx.cell? ⟨xb, 0, none⟩ = some (.int .u32 bs) ∧ wx.cell? ⟨xb, 1, none⟩ = some (.int .u64 br) ∧ wx.cell? ⟨yb, 0, none⟩ = some (.int .u32 bs) ∧ wx.cell? ⟨yb, 1, none⟩ = some (.int .u64 br)) (first | go_keep | exact ⟨s1', s2', s3', x0, x1, y0, y1⟩) (first
            | (go_at_call 11; (with_reducible refine (MCount_calls HE.out.im (s, r) HOK.out but CC HCC.out).mono ?_); rintro e w7 ⟨rfl, rfl⟩; skip)
            | (go_at_call 18; (with_reducible refine (RCount_calls HD.out (s, r) but CC HCD.out).mono ?_); rintro e w7 ⟨rfl, rfl⟩; skip)
            | (go_at_call 19; (with_reducible refine (MTop_all HE.out HR2.out F HF0.out TT HTT.out).mono ?_); rintro e w7 ⟨rfl, f'⟩; clear s1' s2' s3' x0 x1 y0 y1; have n1 := hid (HE.out.quiet f'); have n2 := hid (HD.out.quiet f'); have n3 := hid (HSB.out.frm f' (fun h => h)); have n4 := hid (HF.out.trans' f' (fun _ _ h => h.elim)); have n5 := hid (HXK.out.frm f' (fun h => h)); have n6 := hid (HYK.out.frm f' (fun h => h)); clear HE HD HSB HF HXK HYK f'; have HE := n1; have HD := n2; have HSB := n3; have HF := n4; have HXK := n5; have HYK := n6; clear n1 n2 n3 n4 n5 n6; have s1' := HSB.out.cell 1; have s2' := HSB.out.cell 2; have s3' := HSB.out.cell 3; (simp only [List.getElem?_cons_succ, List.getElem?_cons_zero] at s1' s2' s3'); have x0 := HXK.out.cell 0; have x1 := HXK.out.cell 1; have y0 := HYK.out.cell 0; have y1 := HYK.out.cell 1; (simp only [mkC, List.getElem?_cons_succ, List.getElem?_cons_zero] at x0 x1 y0 y1))
            | (go_at_call 20; (with_reducible refine (RTop_calls HD.out F TT HTT.out).mono ?_); rintro e w7 ⟨rfl, rfl⟩; skip)
            | (go_at_call 21; (with_reducible refine (MLen_z2 HE.out LL HLL.out).mono ?_); rintro e w7 ⟨rfl, f'⟩; clear s1' s2' s3' x0 x1 y0 y1; have n1 := hid (HE.out.quiet f'); have n2 := hid (HD.out.quiet f'); have n3 := hid (HSB.out.frm f' (fun h => h)); have n4 := hid (HF.out.trans' f' (fun _ _ h => h.elim)); have n5 := hid (HXK.out.frm f' (fun h => h)); have n6 := hid (HYK.out.frm f' (fun h => h)); clear HE HD HSB HF HXK HYK f'; have HE := n1; have HD := n2; have HSB := n3; have HF := n4; have HXK := n5; have HYK := n6; clear n1 n2 n3 n4 n5 n6; have s1' := HSB.out.cell 1; have s2' := HSB.out.cell 2; have s3' := HSB.out.cell 3; (simp only [List.getElem?_cons_succ, List.getElem?_cons_zero] at s1' s2' s3'); have x0 := HXK.out.cell 0; have x1 := HXK.out.cell 1; have y0 := HYK.out.cell 0; have y1 := HYK.out.cell 1; (simp only [mkC, List.getElem?_cons_succ, List.getElem?_cons_zero] at x0 x1 y0 y1))
            | (go_at_call 22; (with_reducible refine (RLen_calls HD.out LL HLD.out).mono ?_); rintro e w7 ⟨rfl, rfl⟩; skip))
          go_wp2
          go_roundw
          case rel => exact ⟨k + 1, _, _, _, by have := HLT.out; omega, rfl, HE.out.more (by omega), HD.out, HR2.out, HF.out⟩
          case measure => have := HLT.out; simp [intOf]; omega
        · have e5 : (what == 5) = false := beq_eq_false_iff_ne.2 hw5
          go_wp2_with (first
            | (go_at_call 15; have HSB := hid (show Blk _ wr.heap.size [.int .i64 what, .int .u8 F, .int .u32 s, .int .u64 r] TSt from Blk.new wr [.int .i64 what, .int .u8 F, .int .u32 s, .int .u64 r] TSt); have HSX := hid (show ¬ wr.heap.size = rb ∧ ¬ wr.heap.size = mb by have h1 := HD.out.blk.lt; have := HXB.out; omega); have hd1 := hid (HE.out.quiet (mbox wr (.cells #[.int .i64 what, .int .u8 F, .int .u32 s, .int .u64 r] TSt))); have hd2 := hid (HD.out.quiet (mbox wr (.cells #[.int .i64 what, .int .u8 F, .int .u32 s, .int .u64 r] TSt))); have hd4 := hid (HF.out.trans' (mbox wr (.cells #[.int .i64 what, .int .u8 F, .int .u32 s, .int .u64 r] TSt)) (fun _ _ h => h.elim)); clear HE HD HF; have HE := hd1; have HD := hd2; have HF := hd4; clear hd1 hd2 hd4; (with_reducible refine (MForget_all HE.out HR.out (by have := HLT.out; have := HZ80.out; omega) F HF0.out).mono ?_); rintro e w4 ⟨rfl, ⟨H2, he, hr2⟩, f'⟩; have HR2 := hid hr2; have n1 := hid (he); have n2 := hid (HD.out.frm f' (fun q hq e => by (rcases hq with hq | hq; (have := HXB.out; omega); (exact HD.out.own.off q hq (by show q ≤ rb; rw [show q = mb from e]; exact Nat.le_of_lt HXB.out.2.2.2))))); have n3 := hid (HSB.out.frm f' (fun e => HSX.out.2 e)); have n4 := hid (HF.out.trans' f' (fun q hq e => by have := HXB.out; have : q = mb := e; omega)); clear HE HD HSB HF f'; have HE := n1; have HD := n2; have HSB := n3; have HF := n4; clear n1 n2 n3 n4; clear he hr2; have hsl := HSB.out.lt; have s1' := HSB.out.cell 1; have s2' := HSB.out.cell 2; have s3' := HSB.out.cell 3; (simp only [List.getElem?_cons_succ, List.getElem?_cons_zero] at s1' s2' s3'))
            | (go_at_call 16; (with_reducible refine (RForget_calls HD.out F).mono ?_); rintro e w4 ⟨rfl, ⟨v2, hd⟩, f'⟩; clear s1' s2' s3' hsl; have n1 := hid (HE.out.frm f' (fun q hq e => by rcases hq with hq | hq <;> have := HXB.out <;> have : q = rb := e <;> omega)); have n2 := hid (hd); have n3 := hid (HSB.out.frm f' (fun e => HSX.out.1 e)); have n4 := hid (HF.out.trans' f' (fun q hq e => by have := HXB.out; have : q = rb := e; omega)); clear HE HD HSB HF f'; have HE := n1; have HD := n2; have HSB := n3; have HF := n4; clear n1 n2 n3 n4; clear hd; have hsl := HSB.out.lt; have s1' := HSB.out.cell 1; have s2' := HSB.out.cell 2; have s3' := HSB.out.cell 3; (simp only [List.getElem?_cons_succ, List.getElem?_cons_zero] at s1' s2' s3'))
            | (go_at_call 10; (with_reducible refine (MBest_any HE.out.im HE.out.okK least many but).mono ?_); rintro e w4 ⟨b, fd, rfl, hb, f'⟩; obtain ⟨bs, br⟩ := b; clear s1' s2' s3'; have HBST := hid hb; have n1 := hid (HE.out.quiet f'); have n2 := hid (HD.out.quiet f'); have n3 := hid (HSB.out.frm f' (fun h => h)); have n4 := hid (HF.out.trans' f' (fun _ _ h => h.elim)); clear HE HD HSB HF f'; have HE := n1; have HD := n2; have HSB := n3; have HF := n4; clear n1 n2 n3 n4; clear hb; have s1' := HSB.out.cell 1; have s2' := HSB.out.cell 2; have s3' := HSB.out.cell 3; (simp only [List.getElem?_cons_succ, List.getElem?_cons_zero] at s1' s2' s3'))
            | (go_at_call 17; (with_reducible refine (RBest_any (HD.out.quiet (mbox _ _)) least many but).mono ?_); rintro e w5 ⟨b', fd', rfl, hb', f'⟩; obtain ⟨hfd, hbb⟩ := HR2.out.best HBST.out hb'; subst hfd; subst hbb; clear s1' s2' s3'; have HXK := hid ((blkM w4 (bs, br) w4.heap.size rfl).frm f' (fun h => h)); have HWL := hid (show w4.heap.size < w5.heap.size from HXK.out.lt); have n1 := hid ((HE.out.quiet (mbox _ _)).quiet f'); have n2 := hid ((HD.out.quiet (mbox _ _)).quiet f'); have n3 := hid ((HSB.out.frm (mbox _ _) (fun h => h)).frm f' (fun h => h)); have n4 := hid ((HF.out.trans' (mbox _ _) (fun _ _ h => h.elim)).trans' f' (fun _ _ h => h.elim)); clear HE HD HSB HF f' hb'; have HE := n1; have HD := n2; have HSB := n3; have HF := n4; clear n1 n2 n3 n4; have s1' := HSB.out.cell 1; have s2' := HSB.out.cell 2; have s3' := HSB.out.cell 3; (simp only [List.getElem?_cons_succ, List.getElem?_cons_zero] at s1' s2' s3')))
          have hyf : Frm (fun _ => False) w5 (w5.alloc (.cells #[.int .u32 bs, .int .u64 br] TMk)).drew := (mbox _ _).trans (frm_drew _)
          have n1 := hid (HE.out.quiet hyf); have n2 := hid (HD.out.quiet hyf); have n3 := hid (HSB.out.frm hyf (fun h => h)); have n4 := hid (HF.out.trans' hyf (fun _ _ h => h.elim)); have n5 := hid (HXK.out.frm hyf (fun h => h)); have HYK := hid ((blkM w5 (bs, br) w5.heap.size rfl).frm (frm_drew _) (fun h => h))
          clear HE HD HSB HF HXK hyf s1' s2' s3'
          have HE := n1; have HD := n2; have HSB := n3; have HF := n4; have HXK := n5
          clear n1 n2 n3 n4 n5
          obtain ⟨yb, hyb⟩ : ∃ yb, w5.heap.size = yb := ⟨_, rfl⟩
          obtain ⟨xb, hxb⟩ : ∃ xb, w4.heap.size = xb := ⟨_, rfl⟩
          obtain ⟨w6, hw6⟩ : ∃ w6, w5.alloc (.cells #[.int .u32 bs, .int .u64 br] TMk) = w6 := ⟨_, rfl⟩
          rw [hyb, hxb, hw6]
          rw [hw6] at HE HD HSB HF HXK
          rw [hxb] at HXK
          rw [show w5.alloc (.cells #[.int .u32 (bs, br).1, .int .u64 (bs, br).2] TMk) = w6 from hw6, hyb] at HYK
          obtain ⟨sb, hsb⟩ : ∃ sb, wr.heap.size = sb := ⟨_, rfl⟩
          rw [hsb]
          rw [hsb] at HSB
          clear hsb hsl HSX
          clear hyb hxb hw6 HWL
          obtain ⟨CC, hCC⟩ : ∃ CC, (cntA (Ls.filter fun s_ : Sa => !decide (s_.1 = F)) (s, r) but : Int) = CC := ⟨_, rfl⟩
          obtain ⟨TT, hTT⟩ : ∃ TT, topA (Ls.filter fun s_ : Sa => !decide (s_.1 = F)) F = TT := ⟨_, rfl⟩
          obtain ⟨LL, hLL⟩ : ∃ LL : Int, (((Ls.filter fun s_ : Sa => !decide (s_.1 = F))).length : Int) = LL := ⟨_, rfl⟩
          have HCD := hid hCC; have HCC := hid ((HR2.out.count (s, r) but).symm.trans hCC); have HTT := hid hTT; have HLD := hid hLL
          have HLL := hid (show ((sum4 fun i => (H2 i).length : Nat) : Int) = LL by rw [← HR2.out.len HE.out.ok]; exact hLL)
          have hneq := fun w => neqMk w bs br
          clear hCC hTT hLL
          have s1' := HSB.out.cell 1
          have s2' := HSB.out.cell 2
          have s3' := HSB.out.cell 3
          simp only [List.getElem?_cons_succ, List.getElem?_cons_zero] at s1' s2' s3'
          have x0 := HXK.out.cell 0
          have x1 := HXK.out.cell 1
          have y0 := HYK.out.cell 0
          have y1 := HYK.out.cell 1
          simp only [mkC, List.getElem?_cons_succ, List.getElem?_cons_zero] at x0 x1 y0 y1
          go_region_held3 (fun wx => wx.cell? ⟨sb, 1, none⟩ = some (.int .u8 F) ∧ wx.cell? ⟨sb, 2, none⟩ = some (.int .u32 s) ∧ wx.cell? ⟨sb, 3, none⟩ = some (.int .u64 r) ∧ wx.cell? ⟨xb, 0, none⟩ = some (.int .u32 bs) ∧ wx.cell? ⟨xb, 1, none⟩ = some (.int .u64 br) ∧ wx.cell? ⟨yb, 0, none⟩ = some (.int .u32 bs) ∧ wx.cell? ⟨yb, 1, none⟩ = some (.int .u64 br)) (first | go_keep | exact ⟨s1', s2', s3', x0, x1, y0, y1⟩) (first
            | (go_at_call 11; (with_reducible refine (MCount_calls HE.out.im (s, r) HOK.out but CC HCC.out).mono ?_); rintro e w7 ⟨rfl, rfl⟩; skip)
            | (go_at_call 18; (with_reducible refine (RCount_calls HD.out (s, r) but CC HCD.out).mono ?_); rintro e w7 ⟨rfl, rfl⟩; skip)
            | (go_at_call 19; (with_reducible refine (MTop_all HE.out HR2.out F HF0.out TT HTT.out).mono ?_); rintro e w7 ⟨rfl, f'⟩; clear s1' s2' s3' x0 x1 y0 y1; have n1 := hid (HE.out.quiet f'); have n2 := hid (HD.out.quiet f'); have n3 := hid (HSB.out.frm f' (fun h => h)); have n4 := hid (HF.out.trans' f' (fun _ _ h => h.elim)); have n5 := hid (HXK.out.frm f' (fun h => h)); have n6 := hid (HYK.out.frm f' (fun h => h)); clear HE HD HSB HF HXK HYK f'; have HE := n1; have HD := n2; have HSB := n3; have HF := n4; have HXK := n5; have HYK := n6; clear n1 n2 n3 n4 n5 n6; have s1' := HSB.out.cell 1; have s2' := HSB.out.cell 2; have s3' := HSB.out.cell 3; (simp only [List.getElem?_cons_succ, List.getElem?_cons_zero] at s1' s2' s3'); have x0 := HXK.out.cell 0; have x1 := HXK.out.cell 1; have y0 := HYK.out.cell 0; have y1 := HYK.out.cell 1; (simp only [mkC, List.getElem?_cons_succ, List.getElem?_cons_zero] at x0 x1 y0 y1))
            | (go_at_call 20; (with_reducible refine (RTop_calls HD.out F TT HTT.out).mono ?_); rintro e w7 ⟨rfl, rfl⟩; skip)
            | (go_at_call 21; (with_reducible refine (MLen_z2 HE.out LL HLL.out).mono ?_); rintro e w7 ⟨rfl, f'⟩; clear s1' s2' s3' x0 x1 y0 y1; have n1 := hid (HE.out.quiet f'); have n2 := hid (HD.out.quiet f'); have n3 := hid (HSB.out.frm f' (fun h => h)); have n4 := hid (HF.out.trans' f' (fun _ _ h => h.elim)); have n5 := hid (HXK.out.frm f' (fun h => h)); have n6 := hid (HYK.out.frm f' (fun h => h)); clear HE HD HSB HF HXK HYK f'; have HE := n1; have HD := n2; have HSB := n3; have HF := n4; have HXK := n5; have HYK := n6; clear n1 n2 n3 n4 n5 n6; have s1' := HSB.out.cell 1; have s2' := HSB.out.cell 2; have s3' := HSB.out.cell 3; (simp only [List.getElem?_cons_succ, List.getElem?_cons_zero] at s1' s2' s3'); have x0 := HXK.out.cell 0; have x1 := HXK.out.cell 1; have y0 := HYK.out.cell 0; have y1 := HYK.out.cell 1; (simp only [mkC, List.getElem?_cons_succ, List.getElem?_cons_zero] at x0 x1 y0 y1))
            | (go_at_call 22; (with_reducible refine (RLen_calls HD.out LL HLD.out).mono ?_); rintro e w7 ⟨rfl, rfl⟩; skip))
          go_wp2
          go_roundw
          case rel => exact ⟨k + 1, _, _, _, by have := HLT.out; omega, rfl, HE.out.more (by omega), HD.out, HR2.out, HF.out⟩
          case measure => have := HLT.out; simp [intOf]; omega
    · have hke : k = z0.length := by omega
      subst hke
      clear hlt hk
      go_wp2
      go_ret
      exact ⟨rfl, HF.out.below (Nat.le_refl _) (fun k hk e => by omega)⟩
end Go.Proofs.Ytiffhkhmkigolaa
