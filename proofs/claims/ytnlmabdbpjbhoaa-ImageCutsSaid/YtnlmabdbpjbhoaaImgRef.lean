/- The document's frame. -/
import Derived.Test.YtnlmabdbpjbhoaaImgFrame
import Derived.Test.YtnlmabdbpjbhoaaPut
namespace Go.Proofs.Ytnlmabdbpjbhoaa
open Go.RowKit Go.ChangeShapes
set_option linter.unusedVariables false
set_option linter.unusedSimpArgs false
set_option maxHeartbeats 4000000 in
theorem RFrame_calls {w : World} {t : Int} {a : Option Addr} {c : Nat} {b : List Int} (h0 : 0 ≤ t) (h1 : t < 4294967296) (hb : IsInts .u8 w a c b) (hl : b.length ≤ 40040) :
    Calls Try.prog 12 #[.int .u32 t, .slice a b.length c] w fun e w' => ∃ v, e = .returned v ∧ OwnB w' (fun k => k < w.heap.size) v (frame t b) ∧ Frm (fun _ => False) w w' := by
  have hle := hb.le
  have hsm := hb.small
  have hbw := hid hb.wf
  have HB := hid hb; clear hb
  have e64 : IntKind.u64.wrap t = t := wrapsu _ h0 (by omega)
  have l64 : IntKind.u64.wrap (b.length : Int) = (b.length : Int) := wrapsu _ (by omega) (by omega)
  have l0 : (0 : Int) ≤ (b.length : Int) := by omega
  have hbb : Bts b := fun n hn => bounds_u8 (hbw.out n hn)
  have hSr := range_sFrom (frame0 t b) (bts_frame0 t hbb) 14695981039346656037 (by omega)
  obtain ⟨S, hS⟩ : ∃ S, sFrom 14695981039346656037 (frame0 t b) = S := ⟨_, rfl⟩
  rw [hS] at hSr
  have hS0 := hSr.1
  have hS1 := hSr.2
  have HS := hid hS; clear hS hSr
  have hfx : [] ++ be t 4 ++ be (b.length : Int) 4 ++ b = frame0 t b := by simp [frame0]
  have HFX := hid hfx; clear hfx
  go_enter Try.func12, Try.ntmps12
  go_wp2_with (first
    | (go_at_call 31; (with_reducible refine (Put_calls (OwnB.nil w (fun k => k < w.heap.size)) (fun k hk => hk) t h0 (by omega) 4 4 rfl (by decide) (by decide)).mono ?_); rintro e w1 ⟨v1, rfl, h', f'⟩; have HF := hid (f'.below (Nat.le_refl _) (fun k hk hn => hn hk)); have HV := hid h'; clear h' f')
    | (go_at_call 31; (with_reducible refine (Put_calls HV.out (fun k hk => Nat.lt_of_lt_of_le hk HF.out.size) (b.length : Int) l0 (by omega) 4 4 rfl (by decide) (by simp [be_len])).mono ?_); rintro e w2 ⟨v2, rfl, h', f'⟩; have n1 := hid (HF.out.trans (f'.below HF.out.size (fun k hk hn => hn hk))); clear HF HV f'; have HF := n1; have HV := hid h'; clear n1 h')
    | (at_builtin; refine wpList_more rfl _ _ rfl rfl HV.out (fun k hk => Nat.lt_of_lt_of_le hk HF.out.size) (HB.out.below HF.out (Nat.le_refl _)) rfl (by simp [be_len]; omega) rfl rfl ?_; intro a' l' c' wq ho' hf' hat'; have n1 := hid (HF.out.trans (hf'.below HF.out.size (fun k hk hn => HV.out.off k hn hk))); have n2 := hid (HFX.out ▸ ho'); clear HF HV ho' hf' hat'; have HF := n1; have HV := n2; clear n1 n2)
    | (go_at_call 26; obtain ⟨a9, c9, e9, hi9, _⟩ := HV.out.ints; cases e9; (with_reducible refine (RSum_calls hi9 _ rfl S HS.out).mono ?_); rintro e w' ⟨rfl, rfl⟩; clear hi9)
    | (go_at_call 31; (with_reducible refine (Put_calls HV.out (fun k hk => Nat.lt_of_lt_of_le hk HF.out.size) S hS0 hS1 8 8 rfl (by decide) (by rw [frame0_len]; omega)).mono ?_); rintro e w5 ⟨v5, rfl, h', f'⟩; have n1 := hid (HF.out.trans (f'.below HF.out.size (fun k hk hn => hn hk))); clear HF HV f'; have HF := n1; have HV := hid h'; clear n1 h'))
  go_ret
  refine ⟨_, rfl, ?_, Frm.of_below HF.out (fun k hk hk' => absurd (Nat.lt_of_lt_of_le hk hk') (Nat.lt_irrefl _))⟩
  have h := HV.out
  unfold frame
  rw [HS.out]
  exact h
end Go.Proofs.Ytnlmabdbpjbhoaa
