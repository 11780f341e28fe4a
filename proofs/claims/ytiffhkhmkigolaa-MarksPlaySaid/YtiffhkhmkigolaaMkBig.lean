/- Marks at whatever arguments. -/
import Derived.Test.YtiffhkhmkigolaaMkRel
namespace Go.Proofs.Ytiffhkhmkigolaa
open Go.RowKit Go.ChangeShapes
set_option linter.unusedVariables false
set_option linter.unusedSimpArgs false
set_option maxRecDepth 100000
set_option maxHeartbeats 16000000 in
theorem of_big {w : World} {lb mb N : Nat} {σ : Has} (h : IsMk w lb mb N σ) (F : Int) (hF : 4 ≤ F) :
    Calls Try.prog 24 #[.pointer (some ⟨lb, 0, none⟩), .int .u8 F] w fun e w' => ∃ ov, e = .returned ov ∧ OwnM w' (fun k => k < w.heap.size) ov [] ∧ Frm (fun _ => False) w w' := by
  have q0 := h.cell
  obtain ⟨n, hn, hm⟩ := h.map
  have HM := hid hm
  have HAL := hid (show Alike [] [] from ⟨rfl, fun _ => Iff.rfl, fun p q _ h => absurd h (by simp)⟩)
  clear h hn hm
  go_enter Try.func24, Try.ntmps24
  go_wp2_with (at_range; refine wpList_mp_range rfl _ rfl HM.out u_mm rfl ?_; intro w1 hrg hg1 hs1; have HRG := hid hrg; have HG1 := hid hg1; clear hrg hg1 hs1)
  try go_frame
  go_loopw [5] (fun ov wr => ∃ (left : Value → Prop) (cnt : Nat), ov = .slice none 0 0 ∧ Rng TMk wr mb w.heap.size n (fM σ) left cnt ∧ Frm (fun _ => False) w wr) (fun _ wr => wr.rangeLeft mb w.heap.size)
  case atStart => exact ⟨_, n, rfl, HRG.out, HG1.out⟩
  case round =>
    clear HRG HG1 HM q0
    obtain ⟨left, cnt, rfl, hrg, hf⟩ := hrel
    have HRG := hid hrg; have HF := hid hf
    clear hrg hf
    go_wp2_with (at_next; refine wpList_mp_next rfl _ rfl (fun x : KX => .agg #[.int .u32 x.s, .int .u64 x.r]) (fun y : BX => .agg #[.bool y.a, .bool y.b, .bool y.c, .bool y.d]) HRG.out (fun key v hf => fM_inv2 hf) rfl ?_ ?_)
    · intro hl0 hc0
      clear hl0 hc0
      go_wp2_with (go_at_call 28; (with_reducible refine (Sort_calls (A := fun k => k < w.heap.size) (OwnM.nil _ _) (by decide) HAL.out).mono ?_); rintro e w5 ⟨rfl, ⟨L', ho', ha', hs'⟩, f'⟩; have HO5 := hid ho'; have HE5 := hid (List.eq_nil_of_length_eq_zero ha'.len); have HF5 := hid (HF.out.trans' f' (fun k hk e => by simp [Value.ownBlock] at e)); clear ho' ha' hs' f')
      go_ret
      exact ⟨_, rfl, HE5.out ▸ HO5.out, HF5.out⟩
    · intro x y w2 cnt2 hlk hfk hrg2 hlt2 hg2 hs2 hen
      obtain ⟨xs, xr⟩ := x
      obtain ⟨y0, y1, y2, y3⟩ := y
      dsimp only at hen
      have HR2 := hid hrg2; have HLT2 := hid hlt2
      have HF2 := hid (HF.out.trans' hg2 (fun i hi e => by omega))
      clear hlk hfk hrg2 hlt2 hg2 hs2 HF
      go_wp2
      go_roundw
      case rel => exact ⟨_, cnt2, rfl, HR2.out.frm ((mbox _ _).trans (mbox _ _)) (fun h => h) (fun h => h), HF2.out.trans ((mbox _ _).trans (mbox _ _))⟩
      case measure => rw [HRG.out.left_eq, (HR2.out.frm ((mbox _ _).trans (mbox _ _)) (fun h => h) (fun h => h)).left_eq]; exact HLT2.out
theorem Top_big {w : World} {lb mb N : Nat} {σ : Has} (h : IsMk w lb mb N σ) (F : Int) (hF : 4 ≤ F) :
    Calls Try.prog 19 #[.pointer (some ⟨lb, 0, none⟩), .int .u8 F] w fun e w' => e = .returned (.int .u32 0) ∧ Frm (fun _ => False) w w' := by
  have HE := hid h; have HF4 := hid hF
  clear h hF
  go_enter Try.func19, Try.ntmps19
  go_wp2_with (go_at_call 24; (with_reducible refine (of_big HE.out F HF4.out).mono ?_); rintro e w5 ⟨ov, rfl, ho, f'⟩; obtain ⟨oa, oc, hov⟩ := ho.slice; subst hov; have HF := hid f'; clear ho f')
  go_ret
  exact ⟨rfl, HF.out⟩
theorem Forget_big {w : World} {lb mb N : Nat} {σ : Has} (h : IsMk w lb mb N σ) (F : Int) (hF : 4 ≤ F) :
    Calls Try.prog 15 #[.pointer (some ⟨lb, 0, none⟩), .int .u8 F] w fun e w' => e = .returned (.tuple #[]) ∧ Frm (fun _ => False) w w' := by
  have HE := hid h; have HF4 := hid hF
  clear h hF
  go_enter Try.func15, Try.ntmps15
  go_wp2_with (go_at_call 24; (with_reducible refine (of_big HE.out F HF4.out).mono ?_); rintro e w5 ⟨ov, rfl, ho, f'⟩; obtain ⟨oa, oc, hov⟩ := ho.slice; subst hov; have HF := hid f'; clear ho f')
  go_loopw [10] (fun iv wr => iv = .int .i64 0 ∧ w5 = wr) (fun _ _ => 0)
  case atStart => exact ⟨rfl, rfl⟩
  case round =>
    obtain ⟨rfl, rfl⟩ := hrel
    go_wp2
    go_end0
    exact ⟨rfl, HF.out⟩
def maxK (many : Int) : Int := if many < 1 then 1 else many
theorem MBest_any {w : World} {lb mb N : Nat} {σ : Has} (h : IsMk w lb mb N σ) (hok : ∀ m, anyB (σ m) = true → okK m) (least many but : Int) :
    Calls Try.prog 10 #[.pointer (some ⟨lb, 0, none⟩), .int .u32 least, .int .i64 many, .int .i64 but] w fun e w' => ∃ (b : Mk) (fd : Bool), e = .returned (.tuple #[.agg #[.int .u32 b.1, .int .u64 b.2], .bool fd]) ∧ BestR σ least (maxK many) but fd b ∧ Frm (fun _ => False) w w' := by
  unfold maxK
  by_cases h1 : many < 1
  · rw [if_pos h1]; exact MBest_low h hok least many but h1
  · rw [if_neg h1]; exact MBest_calls h hok least many but (by omega)
theorem RBest_any {w : World} {rb : Nat} {v : Value} {Ls : List Sa} (h : IsRd w rb v Ls) (least many but : Int) :
    Calls Try.prog 17 #[.pointer (some ⟨rb, 0, none⟩), .int .u32 least, .int .i64 many, .int .i64 but] w fun e w' => ∃ (b : Mk) (fd : Bool), e = .returned (.tuple #[.agg #[.int .u32 b.1, .int .u64 b.2], .bool fd]) ∧ BestL (okA Ls least (maxK many) but) Ls fd b ∧ Frm (fun _ => False) w w' := by
  unfold maxK
  by_cases h1 : many < 1
  · rw [if_pos h1]; exact RBest_low h least many but h1
  · rw [if_neg h1]; exact RBest_calls h least many but (by omega)
def badA (F : Int) (m : Mk) : Prop := ¬ F < 4 ∨ F < 4 ∧ (¬ m.1 % 4 = 0 ∨ m.1 % 4 = 0 ∧ 1073741824 < m.1)
theorem RAdd_bad {w : World} {rb : Nat} {v : Value} {Ls : List Sa} (h : IsRd w rb v Ls) (F : Int) (m : Mk) (hm : okK m) (hb : badA F m) :
    Calls Try.prog 12 #[.pointer (some ⟨rb, 0, none⟩), .int .u8 F, .int .u32 m.1, .int .u64 m.2] w fun e w' => e = .returned (.bool false) ∧ w = w' := by
  unfold badA at hb
  obtain ⟨k, hk⟩ : ∃ k, m.1 % 4 = k := ⟨_, rfl⟩
  have htm : m.1.tmod 4 = k := by rw [Int.tmod_eq_emod_of_nonneg hm.1.1]; exact hk
  obtain ⟨ms, mr⟩ := m
  dsimp only at hb hk htm
  rw [hk] at hb
  clear h hm hk
  rcases hb with hb | ⟨hb, hb2 | ⟨rfl, hb2⟩⟩
  · go_enter Try.func12, Try.ntmps12
    go_wp2
    go_ret
    exact ⟨rfl, by first | rfl | trivial⟩
  · have e1 : (k == 0) = false := beq_eq_false_iff_ne.2 hb2
    have e2 : (k != 0) = true := by rw [bne, e1]; rfl
    go_enter Try.func12, Try.ntmps12
    go_wp2
    go_ret
    exact ⟨rfl, by first | rfl | trivial⟩
  · go_enter Try.func12, Try.ntmps12
    go_wp2
    go_ret
    exact ⟨rfl, by first | rfl | trivial⟩
/-- Both sides' state. -/
structure Pair (w : World) (lb mb rb N : Nat) (v : Value) (H : Nat → List Mk) (Ls : List Sa) : Prop where
  m : IsMs w lb mb N H
  d : IsRd w rb v Ls
  rel : Rel H Ls
/-- One step of each: what Add leaves. -/
theorem MAdd_all {w : World} {lb mb N : Nat} {H : Nat → List Mk} (h : IsMs w lb mb N H) (hNN : N ≤ 90000) (F : Int) (hF0 : 0 ≤ F) (m : Mk) (hm : okK m) :
    Calls Try.prog 9 #[.pointer (some ⟨lb, 0, none⟩), .int .u8 F, .int .u32 m.1, .int .u64 m.2] w fun e w' => ∃ (z : Bool) (H' : Nat → List Mk), e = .returned (.bool z) ∧ IsMs w' lb mb (N + 2) H' ∧ Frm (· = mb) w w' ∧ ((badA F m ∧ z = false ∧ H' = H) ∨ (¬ badA F m ∧ ∃ n : Nat, n < 4 ∧ F = n ∧ z = !hasS m.1 (H n) ∧ H' = addH H n m)) := by
  by_cases hb : badA F m
  · refine (MAdd_bad h F m hm hb).mono ?_
    rintro e w' ⟨rfl, h1, h2⟩
    exact ⟨false, H, rfl, h1.more (by omega), h2.mono (fun _ _ h => h.elim), .inl ⟨hb, rfl, rfl⟩⟩
  · have hb' := hb
    unfold badA at hb'
    have hF : F < 4 := Int.not_le.1 fun e => hb' (.inl (Int.not_lt.2 e))
    have hq : m.1 % 4 = 0 := Classical.byContradiction fun e => hb' (.inr ⟨hF, .inl e⟩)
    have hx : m.1 ≤ 1073741824 := Int.not_lt.1 fun e => hb' (.inr ⟨hF, .inr ⟨hq, e⟩⟩)
    obtain ⟨n, hn⟩ : ∃ n : Nat, F = n := ⟨F.toNat, by omega⟩
    have hn4 : n < 4 := by omega
    unfold addH
    cases hs : hasS m.1 (H n)
    · refine (MAdd_new h hNN n hn4 F hn m hm hq hx hs).mono ?_
      rintro e w' ⟨rfl, h1, h2⟩
      exact ⟨true, _, rfl, h1, h2, .inr ⟨hb, n, hn4, hn, by rw [hs]; rfl, by rw [hs, if_neg (by decide)]⟩⟩
    · refine (MAdd_dup h n hn4 F hn m hm hq hx hs).mono ?_
      rintro e w' ⟨rfl, h1, h2⟩
      exact ⟨false, H, rfl, h1.more (by omega), h2.mono (fun _ _ h => h.elim), .inr ⟨hb, n, hn4, hn, by rw [hs]; rfl, by rw [hs, if_pos rfl]⟩⟩
theorem RAdd_all {w : World} {rb : Nat} {v : Value} {Ls : List Sa} {H : Nat → List Mk} (h : IsRd w rb v Ls) (hr : Rel H Ls) (hH : OkH H) (F : Int) (hF0 : 0 ≤ F) (m : Mk) (hm : okK m) :
    Calls Try.prog 12 #[.pointer (some ⟨rb, 0, none⟩), .int .u8 F, .int .u32 m.1, .int .u64 m.2] w fun e w' => ∃ (z : Bool) (v' : Value) (Ls' : List Sa), e = .returned (.bool z) ∧ IsRd w' rb v' Ls' ∧ Frm (Rdb rb v) w w' ∧ ((badA F m ∧ z = false ∧ Ls' = Ls) ∨ (¬ badA F m ∧ ∃ n : Nat, n < 4 ∧ F = n ∧ z = !hasS m.1 (H n) ∧ Rel (addH H n m) Ls')) := by
  by_cases hb : badA F m
  · refine (RAdd_bad h F m hm hb).mono ?_
    rintro e w' ⟨rfl, rfl⟩
    exact ⟨false, v, Ls, rfl, h, Frm.refl _ _, .inl ⟨hb, rfl, rfl⟩⟩
  · have hb' := hb
    unfold badA at hb'
    have hF : F < 4 := Int.not_le.1 fun e => hb' (.inl (Int.not_lt.2 e))
    have hq : m.1 % 4 = 0 := Classical.byContradiction fun e => hb' (.inr ⟨hF, .inl e⟩)
    have hx : m.1 ≤ 1073741824 := Int.not_lt.1 fun e => hb' (.inr ⟨hF, .inr ⟨hq, e⟩⟩)
    obtain ⟨n, hn⟩ : ∃ n : Nat, F = n := ⟨F.toNat, by omega⟩
    have hn4 : n < 4 := by omega
    subst hn
    refine (RAdd_any h (hr.few hH) n ⟨hF0, hF⟩ m hm hq hx).mono ?_
    rintro e w' ⟨z, v', Ls', rfl, h1, h2, h3⟩
    obtain ⟨h4, h5⟩ := hr.add hH n hn4 m h2
    exact ⟨z, v', Ls', rfl, h1, h3, .inr ⟨hb, n, hn4, rfl, h4, h5⟩⟩
end Go.Proofs.Ytiffhkhmkigolaa
