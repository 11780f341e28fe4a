/- A map in pages: a page is cleared, what stands in a page is read, bytes are held against bytes. -/
import Derived.Test.YtfdmneefobfldaaPgCopy
import Derived.Test.YtfdmneefobfldaaPgPage
import Derived.Test.YtfdmneefobfldaaWireRd
import Derived.Test.YtfdmneefobfldaaWireNum
namespace Go.Proofs.Ytfdmneefobfldaa
open Go.RowKit Go.ChangeShapes
set_option maxRecDepth 20000
set_option linter.unusedVariables false
set_option linter.unusedSimpArgs false
/-- The first n keys of a page are nought. -/
def clrV (vs : List Int) (p n : Nat) : List Int := (List.range n).foldl (fun v j => v.set (p + 7 * j) 0) vs
theorem clrV_succ (vs : List Int) (p n : Nat) : clrV vs p (n + 1) = (clrV vs p n).set (p + 7 * n) 0 := by
  unfold clrV; rw [List.range_succ, List.foldl_append]; rfl
set_option maxHeartbeats 4000000 in
theorem Clear_vals {w : World} {b : Nat} {vs cs : List Int} (h : IsMap w b vs cs) (p : Nat) (hp : p < 7) (us : List Int) (hu : clrV vs p (pcount p) = us) :
    Calls Try.prog 51 #[.pointer (some ⟨b, 0, none⟩), .int .i64 p] w fun e w' => e = .returned (.tuple #[]) ∧ IsMap w' b us cs ∧ Frm (· = b) w w' := by
  have HU := hid hu; clear hu
  have HM0 := hid h; clear h
  have hp0 : (0 : Int) ≤ (p : Int) := by omega
  have hp7 : (p : Int) < 7 := by omega
  have qp : ((p : Int) == 7) = false := beq_eq_false_iff_ne.2 (by omega)
  go_enter Try.func51, Try.ntmps51
  go_wp2
  go_loopw [4] (fun kk wr => ∃ j : Nat, j ≤ pcount p ∧ kk = .int .i64 ((p + 7 * j : Nat) : Int) ∧ IsMap wr b (clrV vs p j) cs ∧ Frm (· = b) w wr) (fun kk _ => 64 - (intOf kk).toNat)
  case atStart => exact ⟨0, by omega, by simp, HM0.out, Frm.refl _ _⟩
  case round =>
    obtain ⟨j, hj, rfl, hM, hF⟩ := hrel
    have HF := hid hF; have HM := hid hM
    clear hF
    by_cases hlt : p + 7 * j < 64
    · have q := hM.val (p + 7 * j) hlt
      have z := hM.blk.free (p + 7 * j)
      clear hM
      have hk64 : ((p + 7 * j : Nat) : Int) < 64 := by omega
      have hk0 : (0 : Int) ≤ ((p + 7 * j : Nat) : Int) := by omega
      have hj' := hid (show j + 1 ≤ pcount p by unfold pcount; omega)
      have hsucc := hid (clrV_succ vs p j)
      obtain ⟨K, hK⟩ : ∃ K, p + 7 * j = K := ⟨_, rfl⟩
      have hK7 : ((p + 7 * (j + 1) : Nat) : Int) = (K : Int) + 7 := by omega
      have hKl : K < 64 := by omega
      rw [hK] at q z hk64 hk0 hsucc ⊢
      have HKK := hid hK; have HK7 := hid hK7; have HKl := hid hKl; clear hK hK7 hKl
      have hjc := hid hj; clear hj hlt
      go_wp2
      go_roundw
      case rel => exact ⟨j + 1, hj'.out, by first | (rw [HK7.out]; done) | (rw [HK7.out]; go_num), hsucc.out ▸ HM.out.setVal K HKl.out 0 (by decide), HF.out.setCell _ _ (.inr rfl)⟩
      case measure => simp [intOf]; omega
    · have hk64 : 64 ≤ ((p + 7 * j : Nat) : Int) := by omega
      have hje : j = pcount p := by unfold pcount at hj ⊢; omega
      have HJ := hid hje
      clear hM hje
      obtain ⟨K, hK⟩ : ∃ K, p + 7 * j = K := ⟨_, rfl⟩
      rw [hK] at hk64 ⊢
      clear hK hj hlt
      go_wp2
      go_end0
      exact ⟨rfl, HU.out ▸ HJ.out ▸ HM.out, HF.out⟩
theorem ten_zeros {cs : List Int} (h : cs.length = 10) : ((((((((((cs.set 0 0).set 1 0).set 2 0).set 3 0).set 4 0).set 5 0).set 6 0).set 7 0).set 8 0).set 9 0) = List.replicate 10 0 := by
  match cs, h with
  | [_, _, _, _, _, _, _, _, _, _], _ => rfl
theorem IsMap.cleared {w : World} {b : Nat} {vs cs : List Int} (h : IsMap w b vs cs) : IsMap (w.setCells b 64 ((List.replicate 10 (0 : Int)).map (Value.int .u32))) b vs (List.replicate 10 0) := by
  have hz : (0 : Int) ≤ 0 ∧ (0 : Int) ≤ 4294967295 := by decide
  have := ((((((((((h.setCli 0 (by decide) 0 hz).setCli 1 (by decide) 0 hz).setCli 2 (by decide) 0 hz).setCli 3 (by decide) 0 hz).setCli 4 (by decide) 0 hz).setCli 5 (by decide) 0 hz).setCli 6 (by decide) 0 hz).setCli 7 (by decide) 0 hz).setCli 8 (by decide) 0 hz).setCli 9 (by decide) 0 hz)
  rw [ten_zeros h.lc] at this
  exact this
theorem frm_setCells {b : Nat} : ∀ (l : List Value) (o : Nat) {a w : World}, Frm (· = b) a w → Frm (· = b) a (w.setCells b o l)
  | [], _, _, _, h => h
  | v :: l, o, _, _, h => frm_setCells l (o + 1) (h.setCell ⟨b, o, none⟩ v (.inr rfl))
set_option maxRecDepth 100000 in
set_option maxHeartbeats 4000000 in
theorem Clear_clis {w : World} {b : Nat} {vs cs : List Int} (h : IsMap w b vs cs) :
    Calls Try.prog 51 #[.pointer (some ⟨b, 0, none⟩), .int .i64 7] w fun e w' => e = .returned (.tuple #[]) ∧ IsMap w' b vs (List.replicate 10 0) ∧ Frm (· = b) w w' := by
  have HI := hid (size_clis (cs := List.replicate 10 0) (by decide))
  have H1 := hid (show ((List.replicate 10 (0 : Int)).map (Value.int .u32)).toArray.all (·.oneCell') = true from all_oneCell_toArray (fun v hv => by obtain ⟨_, _, rfl⟩ := List.mem_map.1 hv; rfl))
  have HT := hid (show w.there b 64 10 from fun j hj => ⟨by rw [h.cli j hj]; rfl, h.blk.free _⟩)
  have HM := hid h; clear h
  go_enter Try.func51, Try.ntmps51
  go_wp2_with ((with_reducible show wpList _ _ _ _ _ _); refine wpList_store_mid rfl TEs (.tmp 10) (.tmp 8) rfl b 64 ((List.replicate 10 (0 : Int)).map (Value.int .u32)).toArray rfl rfl HT.out HI.out H1.out ?_)
  refine bodyPost_ret (results_none rfl _ _ _) rfl ?_
  exact ⟨rfl, HM.out.cleared, frm_setCells _ _ (Frm.refl _ _)⟩
theorem str_beq {x y : List Int} (hx : ∀ n ∈ x, (Lit.int .u8 n).wf = true) (hy : ∀ n ∈ y, (Lit.int .u8 n).wf = true) : ((strOfNums x).toList == (strOfNums y).toList) = (x == y) := by
  have inj : ∀ {x y : List Int}, (∀ n ∈ x, 0 ≤ n ∧ n ≤ 255) → (∀ n ∈ y, 0 ≤ n ∧ n ≤ 255) → x.map (fun n => UInt8.ofNat n.toNat) = y.map (fun n => UInt8.ofNat n.toNat) → x = y := by
    intro x
    induction x with
    | nil => intro y _ _ h; cases y with
      | nil => rfl
      | cons _ _ => cases h
    | cons a x ih => intro y hx hy h; cases y with
      | nil => cases h
      | cons b y =>
        rw [List.map_cons, List.map_cons, List.cons.injEq] at h
        have ha := hx a (by simp); have hb := hy b (by simp)
        have h1 : a.toNat = b.toNat := by
          have := congrArg UInt8.toNat h.1
          simp only [UInt8.toNat_ofNat'] at this
          omega
        rw [ih (fun n hn => hx n (by simp [hn])) (fun n hn => hy n (by simp [hn])) h.2, show a = b by omega]
  rw [Bool.eq_iff_iff, beq_iff_eq, beq_iff_eq, ByteArray.toList_eq, ByteArray.toList_eq, strOfNums_data, strOfNums_data]
  exact ⟨fun h => inj (bts_of hx) (bts_of hy) h, fun h => by rw [h]⟩
theorem Equal_calls {w : World} {a a' : Option Addr} {c c' m m' : Nat} {x y : List Int} (hx : IsInts .u8 w a c x) (hy : IsInts .u8 w a' c' y) (hm : x.length = m) (hm' : y.length = m') (z : Bool) (hz : (x == y) = z) :
    Calls Try.prog 55 #[.slice a m c, .slice a' m' c'] w fun e w' => e = .returned (.bool z) ∧ w = w' := by
  have q0 := conv_of hx hm
  have q1 := conv_of hy hm'
  have hs := str_beq hx.wf hy.wf
  rw [hz] at hs
  clear hx hy hm hm' hz
  obtain ⟨s0, hs0⟩ : ∃ s, strOfNums x = s := ⟨_, rfl⟩
  obtain ⟨s1, hs1⟩ : ∃ s, strOfNums y = s := ⟨_, rfl⟩
  rw [hs0, hs1] at hs; rw [hs0] at q0; rw [hs1] at q1
  clear hs0 hs1
  have HZ := hid hs
  go_enter Try.func55, Try.ntmps55
  go_wp2
  go_ret
  exact ⟨by first | rfl | (rw [HZ.out]; done) | simp [HZ.out], rfl⟩
/-- What a map's method changes is no byte of a reader. -/
theorem IsRd.put {w w' : World} {r b : Nat} {x vs cs : List Int} (h : IsRd w r x) (hm : IsMap w b vs cs) (f : Frm (· = b) w w') (hne : r ≠ b) : IsRd w' r x := by
  obtain ⟨g, off, c, hb, hi, hn⟩ := h.blk
  refine ⟨g, off, c, hb.frm f hne, ?_, hn⟩
  by_cases hg : g = b
  · subst hg
    rcases Nat.eq_zero_or_pos x.length with h0 | h0
    · exact ⟨hi.le, hi.small, fun hp => absurd hp (by omega), hi.wf⟩
    · obtain ⟨g', off', e, hlt, hc⟩ := hi.at_ (by omega)
      cases e
      have := hc 0 h0
      rw [Nat.add_zero, hm.blk.cell] at this
      have hmem := List.mem_of_getElem? this
      rw [pcells, List.mem_append, List.mem_map, List.mem_map] at hmem
      rcases hmem with ⟨_, _, e⟩ | ⟨_, _, e⟩ <;> cases e
  · exact hi.frm f (fun p hp => by cases hp; exact hg)
theorem frm_or1 {b r : Nat} {w a c : World} (h : Frm (fun k => k = b ∨ k = r) w a) (f : Frm (· = r) a c) : Frm (fun k => k = b ∨ k = r) w c := h.trans (f.mono (fun _ _ e => .inr e))
theorem frm_or0 {b r : Nat} {w a c : World} (h : Frm (fun k => k = b ∨ k = r) w a) (f : Frm (· = b) a c) : Frm (fun k => k = b ∨ k = r) w c := h.trans (f.mono (fun _ _ e => .inl e))
set_option maxHeartbeats 4000000 in
theorem Reads_val {w : World} {b r : Nat} {vs cs rest : List Int} (h : IsMap w b vs cs) (k v : Int) (hk : 0 ≤ k ∧ k < 256) (hv : 0 ≤ v ∧ v ≤ 65535) (hr : IsRd w r (be k 1 ++ (be v 2 ++ rest))) (hne : r ≠ b) (P : Int) (hP : P ≠ 7) (us : List Int) (hu : putV vs k v = us) :
    Calls Try.prog 54 #[.pointer (some ⟨b, 0, none⟩), .int .i64 P, .pointer (some ⟨r, 0, none⟩)] w fun e w' => e = .returned (.tuple #[]) ∧ IsMap w' b us cs ∧ IsRd w' r rest ∧ Frm (fun q => q = b ∨ q = r) w w' := by
  have qp : (P == 7) = false := beq_eq_false_iff_ne.2 hP
  have HM := hid h; have HK := hid hk; have HV := hid hv; have HR := hid hr; have HN := hid hne; have HU := hid hu
  clear h hk hv hr hne hP hu
  have d1 := hid (show (be k 1 ++ (be v 2 ++ rest)).drop 1 = be v 2 ++ rest from List.drop_left' (be_len k 1))
  have t1 := hid (show IntKind.u8.wrap (vOf ((be k 1 ++ (be v 2 ++ rest)).take 1)) = k by rw [List.take_left' (be_len k 1), vOf_be1 k HK.out.1 HK.out.2, wrap_u8]; have := HK.out; omega)
  have d2 := hid (show (be v 2 ++ rest).drop 2 = rest from List.drop_left' (be_len v 2))
  have t2 := hid (show IntKind.u16.wrap (vOf ((be v 2 ++ rest).take 2)) = v by rw [List.take_left' (be_len v 2), vOf_be2 v HV.out.1 (by have := HV.out; omega), wrap_u16]; have := HV.out; omega)
  have HF := hid (Frm.refl (fun q => q = b ∨ q = r) w)
  go_enter Try.func54, Try.ntmps54
  go_wp2_with (first
    | (go_at_call 63; (with_reducible refine (RU8_ok HR.out (by rw [List.length_append, be_len]; omega) k t1.out).mono ?_); rintro e w' ⟨rfl, h', f'⟩; (rw [d1.out] at h'); have n0 := hid h'; have n1 := hid (HM.out.frm f' (fun e => HN.out e.symm)); have n2 := hid (frm_or1 HF.out f'); clear HR HM HF h' f'; have HR := n0; have HM := n1; have HF := n2; clear n0 n1 n2)
    | (go_at_call 65; (with_reducible refine (RU16_ok HR.out (by rw [List.length_append, be_len]; omega) v t2.out).mono ?_); rintro e w' ⟨rfl, h', f'⟩; (rw [d2.out] at h'); have n0 := hid h'; have n1 := hid (HM.out.frm f' (fun e => HN.out e.symm)); have n2 := hid (frm_or1 HF.out f'); clear HR HM HF h' f'; have HR := n0; have HM := n1; have HF := n2; clear n0 n1 n2)
    | (go_at_call 8; (with_reducible refine (PPut_calls HM.out k HK.out.1 v HV.out _ HU.out).mono ?_); rintro e w' ⟨rfl, h', f'⟩; have n0 := hid (HR.out.put HM.out f' HN.out); have n1 := hid h'; have n2 := hid (frm_or0 HF.out f'); clear HR HM HF h' f'; have HR := n0; have HM := n1; have HF := n2; clear n0 n1 n2))
  go_end0
  exact ⟨rfl, HM.out, HR.out, HF.out⟩
set_option maxHeartbeats 4000000 in
theorem Reads_one {w : World} {b r : Nat} {vs cs : List Int} (h : IsMap w b vs cs) (k : Int) (hk : 0 ≤ k ∧ k < 256) (hr : IsRd w r [k]) (hne : r ≠ b) (P : Int) (hP : P ≠ 7) (us : List Int) (hu : putV vs k 0 = us) :
    Calls Try.prog 54 #[.pointer (some ⟨b, 0, none⟩), .int .i64 P, .pointer (some ⟨r, 0, none⟩)] w fun e w' => e = .returned (.tuple #[]) ∧ IsMap w' b us cs ∧ IsRd w' r [] ∧ Frm (fun q => q = b ∨ q = r) w w' := by
  have qp : (P == 7) = false := beq_eq_false_iff_ne.2 hP
  have HM := hid h; have HK := hid hk; have HR := hid hr; have HN := hid hne; have HU := hid hu
  clear h hk hr hne hP hu
  have t1 := hid (show IntKind.u8.wrap (vOf ([k].take 1)) = k by (have e : be k 1 = [k] := by (have := HK.out; simp [be]; omega)); (rw [show [k].take 1 = be k 1 from e.symm, vOf_be1 k HK.out.1 HK.out.2, wrap_u8]); have := HK.out; omega)
  have HF := hid (Frm.refl (fun q => q = b ∨ q = r) w)
  go_enter Try.func54, Try.ntmps54
  go_wp2_with (first
    | (go_at_call 63; (with_reducible refine (RU8_ok HR.out (by simp) k t1.out).mono ?_); rintro e w' ⟨rfl, h', f'⟩; have n0 := hid (show IsRd w' r [] from h'); have n1 := hid (HM.out.frm f' (fun e => HN.out e.symm)); have n2 := hid (frm_or1 HF.out f'); clear HR HM HF h' f'; have HR := n0; have HM := n1; have HF := n2; clear n0 n1 n2)
    | (go_at_call 65; (with_reducible refine (RU16_short HR.out (by simp)).mono ?_); rintro e w' ⟨rfl, rfl⟩)
    | (go_at_call 8; (with_reducible refine (PPut_calls HM.out k HK.out.1 0 (by decide) _ HU.out).mono ?_); rintro e w' ⟨rfl, h', f'⟩; have n0 := hid (HR.out.put HM.out f' HN.out); have n1 := hid h'; have n2 := hid (frm_or0 HF.out f'); clear HR HM HF h' f'; have HR := n0; have HM := n1; have HF := n2; clear n0 n1 n2))
  go_end0
  exact ⟨rfl, HM.out, HR.out, HF.out⟩
set_option maxHeartbeats 4000000 in
theorem Reads_cli {w : World} {b r : Nat} {vs cs rest : List Int} (h : IsMap w b vs cs) (i t v : Int) (hi : 0 ≤ i ∧ i < 256) (ht : 0 ≤ t ∧ t ≤ 4294967295) (hv : 0 ≤ v ∧ v ≤ 4294967295) (hr : IsRd w r (be i 1 ++ (be t 4 ++ (be v 4 ++ rest)))) (hne : r ≠ b) (ds : List Int) (hd : setC cs i t v = ds) :
    Calls Try.prog 54 #[.pointer (some ⟨b, 0, none⟩), .int .i64 7, .pointer (some ⟨r, 0, none⟩)] w fun e w' => e = .returned (.tuple #[]) ∧ IsMap w' b vs ds ∧ IsRd w' r rest ∧ Frm (fun q => q = b ∨ q = r) w w' := by
  have HM := hid h; have HK := hid hi; have HT := hid ht; have HV := hid hv; have HR := hid hr; have HN := hid hne; have HU := hid hd
  clear h hi ht hv hr hne hd
  have d1 := hid (show (be i 1 ++ (be t 4 ++ (be v 4 ++ rest))).drop 1 = be t 4 ++ (be v 4 ++ rest) from List.drop_left' (be_len i 1))
  have t1 := hid (show IntKind.u8.wrap (vOf ((be i 1 ++ (be t 4 ++ (be v 4 ++ rest))).take 1)) = i by rw [List.take_left' (be_len i 1), vOf_be1 i HK.out.1 HK.out.2, wrap_u8]; have := HK.out; omega)
  have d2 := hid (show (be t 4 ++ (be v 4 ++ rest)).drop 4 = be v 4 ++ rest from List.drop_left' (be_len t 4))
  have t2 := hid (show IntKind.u32.wrap (vOf ((be t 4 ++ (be v 4 ++ rest)).take 4)) = t by rw [List.take_left' (be_len t 4), vOf_be4 t HT.out.1 (by have := HT.out; omega), wrap_u32]; have := HT.out; omega)
  have d3 := hid (show (be v 4 ++ rest).drop 4 = rest from List.drop_left' (be_len v 4))
  have t3 := hid (show IntKind.u32.wrap (vOf ((be v 4 ++ rest).take 4)) = v by rw [List.take_left' (be_len v 4), vOf_be4 v HV.out.1 (by have := HV.out; omega), wrap_u32]; have := HV.out; omega)
  have HF := hid (Frm.refl (fun q => q = b ∨ q = r) w)
  go_enter Try.func54, Try.ntmps54
  go_wp2_with (first
    | (go_at_call 63; (with_reducible refine (RU8_ok HR.out (by rw [List.length_append, be_len]; omega) i t1.out).mono ?_); rintro e w' ⟨rfl, h', f'⟩; (rw [d1.out] at h'); have n0 := hid h'; have n1 := hid (HM.out.frm f' (fun e => HN.out e.symm)); have n2 := hid (frm_or1 HF.out f'); clear HR HM HF h' f'; have HR := n0; have HM := n1; have HF := n2; clear n0 n1 n2)
    | (go_at_call 64; (with_reducible refine (RU32_ok (x := be t 4 ++ (be v 4 ++ rest)) HR.out (by rw [List.length_append, be_len]; omega) t t2.out).mono ?_); rintro e w' ⟨rfl, h', f'⟩; (rw [d2.out] at h'); have n0 := hid h'; have n1 := hid (HM.out.frm f' (fun e => HN.out e.symm)); have n2 := hid (frm_or1 HF.out f'); clear HR HM HF h' f'; have HR := n0; have HM := n1; have HF := n2; clear n0 n1 n2)
    | (go_at_call 64; (with_reducible refine (RU32_ok (x := be v 4 ++ rest) HR.out (by rw [List.length_append, be_len]; omega) v t3.out).mono ?_); rintro e w' ⟨rfl, h', f'⟩; (rw [d3.out] at h'); have n0 := hid h'; have n1 := hid (HM.out.frm f' (fun e => HN.out e.symm)); have n2 := hid (frm_or1 HF.out f'); clear HR HM HF h' f'; have HR := n0; have HM := n1; have HF := n2; clear n0 n1 n2)
    | (go_at_call 44; (with_reducible refine (PSetClient_calls HM.out i HK.out.1 t v HT.out HV.out _ HU.out).mono ?_); rintro e w' ⟨rfl, h', f'⟩; have n0 := hid (HR.out.put HM.out f' HN.out); have n1 := hid h'; have n2 := hid (frm_or0 HF.out f'); clear HR HM HF h' f'; have HR := n0; have HM := n1; have HF := n2; clear n0 n1 n2))
  refine bodyPost_ret (results_none rfl _ _ _) rfl ?_
  exact ⟨rfl, HM.out, HR.out, HF.out⟩
end Go.Proofs.Ytfdmneefobfldaa
