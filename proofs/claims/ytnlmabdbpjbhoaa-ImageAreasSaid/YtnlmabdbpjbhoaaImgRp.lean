/- The document's Parse. -/
import Derived.Test.YtnlmabdbpjbhoaaImgParse3
import Derived.Deep.RegionHeld3
namespace Go.Proofs.Ytnlmabdbpjbhoaa
open Go.RowKit Go.ChangeShapes
set_option linter.unusedVariables false
set_option linter.unusedSimpArgs false
theorem RParse_short {w : World} {a : Option Addr} {c : Nat} (n : Nat) (hl : n < 16) :
    Calls Try.prog 10 #[.slice a n c] w fun e w' => e = .returned (.tuple #[.int .u32 0, .slice none 0 0, .bool false]) ∧ Frm (fun _ => False) w w' := by
  go_enter Try.func10, Try.ntmps10
  go_wp2
  go_ret3
  exact ⟨rfl, Frm.refl _ _⟩
set_option maxHeartbeats 4000000 in
theorem RParse_a {w : World} {g off c : Nat} {x : List Int} (n k m : Nat) (hx : IsInts .u8 w (some ⟨g, off, none⟩) c x) (hn : x.length = n) (hl : n ≤ 40040) (hk : n = k + 8) (hm : k = m + 8) (T N V S : Int) (hT : vOf (x.take 4) = T) (hN : vOf ((x.drop 4).take 4) = N) (hV : vOf (x.drop k) = V) (hS : sFrom 14695981039346656037 (x.take k) = S) (hT0 : 0 ≤ T) (hT1 : T < 4294967296) (hne : N ≠ (m : Int)) :
    Calls Try.prog 10 #[.slice (some ⟨g, off, none⟩) n c] w fun e w' => e = .returned (.tuple #[.int .u32 0, .slice none 0 0, .bool false]) ∧ Frm (fun _ => False) w w' := by
  have hle := hx.le
  rw [hn] at hle
  have hsm := hx.small
  have HX := hid hx; clear hx
  have HT := hid hT; have HN := hid hN; clear hT hN
  have HV := hid (show vOf ((x.drop k).take 8) = V by rw [List.take_of_length_le (by rw [List.length_drop]; omega)]; exact hV)
  have HS := hid hS; clear hS hV
  have h4 := hid (show 4 ≤ x.length by omega)
  have h4n := hid (show 4 < n by omega)
  have hd4 := hid (show (x.drop 4).length = n - 4 by rw [List.length_drop]; omega)
  have hd44 := hid (show 4 ≤ (x.drop 4).length by rw [List.length_drop]; omega)
  have hdk := hid (show (x.drop k).length = n - k by rw [List.length_drop]; omega)
  have hdk8 := hid (show 8 ≤ (x.drop k).length by rw [List.length_drop]; omega)
  have htk := hid (show (x.take k).length = k by rw [List.length_take]; omega)
  have e8 : (n : Int) - 8 = (k : Int) := by omega
  have e16 : (n : Int) - 16 = (m : Int) := by omega
  have em4 : IntKind.i64.wrap (k : Int) = (k : Int) := IntWalk.i64_in _ (by omega)
  have em3 : IntKind.i64.wrap (m : Int) = (m : Int) := IntWalk.i64_in _ (by omega)
  have em : IntKind.u64.wrap (m : Int) = (m : Int) := wrapsu _ (by omega) (by omega)
  have eT : IntKind.u32.wrap T = T := by rw [wrap_u32]; omega
  have kn : k ≤ n := by omega
  have kc : k ≤ c := by omega
  have k0 : (0 : Int) ≤ (k : Int) := by omega
  have k1 : (k : Int) ≤ (n : Int) := by omega
  have k2 : (k : Int) ≤ (c : Int) := by omega
  have k3 : (8 : Int) ≤ (k : Int) := by omega
  have ck : ¬ c = k := by omega
  have c8 : ¬ c = 8 := by omega
  have n16 : ¬ (n : Int) < 16 := by omega
  have HK := hid hk; have HM := hid hm; have hn' := hid hn; clear hk hm hn; have hn := hn'; clear hn' hle hl hT0 hT1
  have q1 : (N == (m : Int)) = false := beq_eq_false_iff_ne.2 hne
  have q2 : (N != (m : Int)) = true := bne_iff_ne.2 hne
  have hne' := hid hne; clear hne
  go_enter Try.func10, Try.ntmps10
  go_wp2_with (first
    | (go_at_call 25; (with_reducible refine (Get_calls n hn.out (Blk.new w [.slice (some ⟨g, off, none⟩) n c, .bool false] TRf) (HX.out.frm ((Frm.refl (fun _ => False) w).alloc _) (fun _ _ h => h)) 4 4 rfl (by decide) h4.out T HT.out).mono ?_); rintro e w1 ⟨rfl, h', f'⟩; have HR := hid (h' h4n.out); have HF := hid (fresh0 f'); clear h' f')
    | (go_at_call 25; (with_reducible refine (Get_calls (n - 4) hd4.out HR.out ((HX.out.frm HF.out (fun _ _ h => h)).drop 4) 4 4 rfl (by decide) hd44.out N HN.out).mono ?_); rintro e w2 ⟨rfl, h', f'⟩; have HF2 := hid (HF.out.trans' f' (fun i hi e => absurd e (Nat.ne_of_lt hi))); clear HF HR h' f'; have HF := HF2; clear HF2))
  refine wp_region_held_drew (S := fun wx => True) (by kernel_rfl) (by trivial) (fun hHeld => ?_)
  refine wpAnyH_take (i := 0) (oi := ⟨some 27, _, _, _, _, _⟩) (v := ?v1) rfl (by kernel_rfl) (by kernel_rfl) (by kernel_rfl) (fun _ _ _ h => h) (Or.inl ⟨by rfl, ?y1⟩) (by assumption) ?r1
  case y1 => (intro wx hSx; (try dsimp only at hSx); go_simp; (try with_reducible rfl))
  try simp only [Act.put, List.setIfInBounds_toArray, List.set_cons_zero, List.set_cons_succ]
  refine wpAnyH_take (i := 1) (oi := ⟨some 28, _, _, _, _, _⟩) (v := ?v2) rfl (by kernel_rfl) (by kernel_rfl) (by kernel_rfl) (fun _ _ _ h => h) (Or.inl ⟨by rfl, ?y2⟩) (by assumption) ?r2
  case y2 => (intro wx hSx; (try dsimp only at hSx); go_simp; (try with_reducible rfl))
  try simp only [Act.put, List.setIfInBounds_toArray, List.set_cons_zero, List.set_cons_succ]
  refine wpAnyH_take (i := 2) (oi := ⟨some 29, _, _, _, _, _⟩) (v := ?v3) rfl (by kernel_rfl) (by kernel_rfl) (by kernel_rfl) (fun _ _ _ h => h) (Or.inl ⟨by rfl, ?y3⟩) (by assumption) ?r3
  case y3 => (intro wx hSx; (try dsimp only at hSx); go_simp; (try with_reducible rfl))
  try simp only [Act.put, List.setIfInBounds_toArray, List.set_cons_zero, List.set_cons_succ]
  refine wpAnyH_take (i := 3) (oi := ⟨some 30, _, _, _, _, _⟩) (v := ?v4) rfl (by kernel_rfl) (by kernel_rfl) (by kernel_rfl) (fun _ _ _ h => h) (Or.inl ⟨by rfl, ?y4⟩) (by assumption) ?r4
  case y4 => (intro wx hSx; (try dsimp only at hSx); go_simp; (try with_reducible rfl))
  try simp only [Act.put, List.setIfInBounds_toArray, List.set_cons_zero, List.set_cons_succ]
  refine wpAnyH_take (i := 4) (oi := ⟨some 31, _, _, _, _, _⟩) (v := ?v5) rfl (by kernel_rfl) (by kernel_rfl) (by kernel_rfl) (fun _ _ _ h => h) (Or.inl ⟨by rfl, ?y5⟩) (by assumption) ?r5
  case y5 => (intro wx hSx; (try dsimp only at hSx); go_simp; (try with_reducible rfl))
  try simp only [Act.put, List.setIfInBounds_toArray, List.set_cons_zero, List.set_cons_succ]
  refine wpAnyH_take (i := 5) (oi := ⟨some 32, _, _, _, _, _⟩) (v := ?v6) rfl (by kernel_rfl) (by kernel_rfl) (by kernel_rfl) (fun _ _ _ h => h) (Or.inl ⟨by rfl, ?y6⟩) (by assumption) ?r6
  case y6 => (intro wx hSx; (try dsimp only at hSx); go_simp; (try with_reducible rfl))
  try simp only [Act.put, List.setIfInBounds_toArray, List.set_cons_zero, List.set_cons_succ]
  try simp only [em3, em, q2]
  refine wpAnyH_take (i := 6) (oi := ⟨some 33, _, _, _, _, _⟩) (v := undef) rfl (by kernel_rfl) (by kernel_rfl) (by kernel_rfl) (fun _ _ _ h => h) (Or.inr ⟨by rfl, rfl⟩) (by assumption) ?_
  try simp only [Act.put, List.setIfInBounds_toArray, List.set_cons_zero, List.set_cons_succ]
  refine wpAnyH_take (i := 7) (oi := ⟨some 34, _, _, _, _, _⟩) (v := undef) rfl (by kernel_rfl) (by kernel_rfl) (by kernel_rfl) (fun _ _ _ h => h) (Or.inr ⟨by rfl, rfl⟩) (by assumption) ?_
  try simp only [Act.put, List.setIfInBounds_toArray, List.set_cons_zero, List.set_cons_succ]
  refine wpAnyH_take (i := 8) (oi := ⟨some 35, _, _, _, _, _⟩) (v := undef) rfl (by kernel_rfl) (by kernel_rfl) (by kernel_rfl) (fun _ _ _ h => h) (Or.inr ⟨by rfl, rfl⟩) (by assumption) ?_
  try simp only [Act.put, List.setIfInBounds_toArray, List.set_cons_zero, List.set_cons_succ]
  refine wpAnyH_take (i := 9) (oi := ⟨some 36, _, _, _, _, _⟩) (v := undef) rfl (by kernel_rfl) (by kernel_rfl) (by kernel_rfl) (fun _ _ _ h => h) (Or.inr ⟨by rfl, rfl⟩) (by assumption) ?_
  try simp only [Act.put, List.setIfInBounds_toArray, List.set_cons_zero, List.set_cons_succ]
  refine wpAnyH_take (i := 10) (oi := ⟨some 37, _, _, _, _, _⟩) (v := undef) rfl (by kernel_rfl) (by kernel_rfl) (by kernel_rfl) (fun _ _ _ h => h) (Or.inr ⟨by rfl, rfl⟩) (by assumption) ?_
  try simp only [Act.put, List.setIfInBounds_toArray, List.set_cons_zero, List.set_cons_succ]
  refine wpAnyH_take (i := 11) (oi := ⟨some 38, _, _, _, _, _⟩) (v := undef) rfl (by kernel_rfl) (by kernel_rfl) (by kernel_rfl) (fun _ _ _ h => h) (Or.inr ⟨by rfl, rfl⟩) (by assumption) ?_
  try simp only [Act.put, List.setIfInBounds_toArray, List.set_cons_zero, List.set_cons_succ]
  refine wpAnyH_take (i := 12) (oi := ⟨some 39, _, _, _, _, _⟩) (v := undef) rfl (by kernel_rfl) (by kernel_rfl) (by kernel_rfl) (fun _ _ _ h => h) (Or.inr ⟨by rfl, rfl⟩) (by assumption) ?_
  try simp only [Act.put, List.setIfInBounds_toArray, List.set_cons_zero, List.set_cons_succ]
  refine wpAnyH_take (i := 13) (oi := ⟨some 40, _, _, _, _, _⟩) (v := undef) rfl (by kernel_rfl) (by kernel_rfl) (by kernel_rfl) (fun _ _ _ h => h) (Or.inr ⟨by rfl, rfl⟩) (by assumption) ?_
  try simp only [Act.put, List.setIfInBounds_toArray, List.set_cons_zero, List.set_cons_succ]
  refine wpAnyH_take (i := 14) (oi := ⟨some 41, _, _, _, _, _⟩) (v := ?v7) rfl (by kernel_rfl) (by kernel_rfl) (by kernel_rfl) (fun _ _ _ h => h) (Or.inl ⟨by rfl, ?y7⟩) (by assumption) ?r7
  case y7 => (intro wx hSx; (try dsimp only at hSx); go_simp; (try with_reducible rfl))
  try simp only [Act.put, List.setIfInBounds_toArray, List.set_cons_zero, List.set_cons_succ]
  refine wpAnyH_done (by kernel_rfl) ?_ _
  go_wp2
  go_ret3
  exact ⟨rfl, (HF.out.alloc _).drew⟩
set_option maxHeartbeats 4000000 in
theorem RParse_b {w : World} {g off c : Nat} {x : List Int} (n k m : Nat) (hx : IsInts .u8 w (some ⟨g, off, none⟩) c x) (hn : x.length = n) (hl : n ≤ 40040) (hk : n = k + 8) (hm : k = m + 8) (T N V S : Int) (hT : vOf (x.take 4) = T) (hN : vOf ((x.drop 4).take 4) = N) (hV : vOf (x.drop k) = V) (hS : sFrom 14695981039346656037 (x.take k) = S) (hT0 : 0 ≤ T) (hT1 : T < 4294967296) (hne : N = (m : Int)) (hvs : V ≠ S) :
    Calls Try.prog 10 #[.slice (some ⟨g, off, none⟩) n c] w fun e w' => e = .returned (.tuple #[.int .u32 0, .slice none 0 0, .bool false]) ∧ Frm (fun _ => False) w w' := by
  have hle := hx.le
  rw [hn] at hle
  have hsm := hx.small
  have HX := hid hx; clear hx
  have HT := hid hT; have HN := hid hN; clear hT hN
  have HV := hid (show vOf ((x.drop k).take 8) = V by rw [List.take_of_length_le (by rw [List.length_drop]; omega)]; exact hV)
  have HS := hid hS; clear hS hV
  have h4 := hid (show 4 ≤ x.length by omega)
  have h4n := hid (show 4 < n by omega)
  have hd4 := hid (show (x.drop 4).length = n - 4 by rw [List.length_drop]; omega)
  have hd44 := hid (show 4 ≤ (x.drop 4).length by rw [List.length_drop]; omega)
  have hdk := hid (show (x.drop k).length = n - k by rw [List.length_drop]; omega)
  have hdk8 := hid (show 8 ≤ (x.drop k).length by rw [List.length_drop]; omega)
  have htk := hid (show (x.take k).length = k by rw [List.length_take]; omega)
  have e8 : (n : Int) - 8 = (k : Int) := by omega
  have e16 : (n : Int) - 16 = (m : Int) := by omega
  have em4 : IntKind.i64.wrap (k : Int) = (k : Int) := IntWalk.i64_in _ (by omega)
  have em3 : IntKind.i64.wrap (m : Int) = (m : Int) := IntWalk.i64_in _ (by omega)
  have em : IntKind.u64.wrap (m : Int) = (m : Int) := wrapsu _ (by omega) (by omega)
  have eT : IntKind.u32.wrap T = T := by rw [wrap_u32]; omega
  have kn : k ≤ n := by omega
  have kc : k ≤ c := by omega
  have k0 : (0 : Int) ≤ (k : Int) := by omega
  have k1 : (k : Int) ≤ (n : Int) := by omega
  have k2 : (k : Int) ≤ (c : Int) := by omega
  have k3 : (8 : Int) ≤ (k : Int) := by omega
  have ck : ¬ c = k := by omega
  have c8 : ¬ c = 8 := by omega
  have n16 : ¬ (n : Int) < 16 := by omega
  have HK := hid hk; have HM := hid hm; have hn' := hid hn; clear hk hm hn; have hn := hn'; clear hn' hle hl hT0 hT1
  have q1 : (N == (m : Int)) = true := beq_iff_eq.2 hne
  have q2 : (N != (m : Int)) = false := by rw [bne, q1]; rfl
  have hne' := hid hne; clear hne
  have q3 : (V == S) = false := beq_eq_false_iff_ne.2 hvs
  have q4 : (V != S) = true := bne_iff_ne.2 hvs
  have hvs' := hid hvs; clear hvs
  go_enter Try.func10, Try.ntmps10
  go_wp2_with (first
    | (go_at_call 25; (with_reducible refine (Get_calls n hn.out (Blk.new w [.slice (some ⟨g, off, none⟩) n c, .bool false] TRf) (HX.out.frm ((Frm.refl (fun _ => False) w).alloc _) (fun _ _ h => h)) 4 4 rfl (by decide) h4.out T HT.out).mono ?_); rintro e w1 ⟨rfl, h', f'⟩; have HR := hid (h' h4n.out); have HF := hid (fresh0 f'); clear h' f')
    | (go_at_call 25; (with_reducible refine (Get_calls (n - 4) hd4.out HR.out ((HX.out.frm HF.out (fun _ _ h => h)).drop 4) 4 4 rfl (by decide) hd44.out N HN.out).mono ?_); rintro e w2 ⟨rfl, h', f'⟩; have HF2 := hid (HF.out.trans' f' (fun i hi e => absurd e (Nat.ne_of_lt hi))); clear HF HR h' f'; have HF := HF2; clear HF2))
  have HB3 := hid (show Blk (w2.alloc (.cells #[.slice (some ⟨g, off + k, none⟩) (n - k) (c - k), .bool false] TRf)).drew w2.heap.size [.slice (some ⟨g, off + k, none⟩) (n - k) (c - k), .bool false] TRf from Blk.new w2 [.slice (some ⟨g, off + k, none⟩) (n - k) (c - k), .bool false] TRf)
  have HF3 := hid (show Frm (fun _ => False) w (w2.alloc (.cells #[.slice (some ⟨g, off + k, none⟩) (n - k) (c - k), .bool false] TRf)).drew from (HF.out.alloc _).drew)
  refine wp_region_held_drew (S := fun wx => True) (by kernel_rfl) (by trivial) (fun hHeld => ?_)
  refine wpAnyH_take (i := 0) (oi := ⟨some 27, _, _, _, _, _⟩) (v := ?v1) rfl (by kernel_rfl) (by kernel_rfl) (by kernel_rfl) (fun _ _ _ h => h) (Or.inl ⟨by rfl, ?y1⟩) (by assumption) ?r1
  case y1 => (intro wx hSx; (try dsimp only at hSx); go_simp; (try with_reducible rfl))
  try simp only [Act.put, List.setIfInBounds_toArray, List.set_cons_zero, List.set_cons_succ]
  refine wpAnyH_take (i := 1) (oi := ⟨some 28, _, _, _, _, _⟩) (v := ?v2) rfl (by kernel_rfl) (by kernel_rfl) (by kernel_rfl) (fun _ _ _ h => h) (Or.inl ⟨by rfl, ?y2⟩) (by assumption) ?r2
  case y2 => (intro wx hSx; (try dsimp only at hSx); go_simp; (try with_reducible rfl))
  try simp only [Act.put, List.setIfInBounds_toArray, List.set_cons_zero, List.set_cons_succ]
  refine wpAnyH_take (i := 2) (oi := ⟨some 29, _, _, _, _, _⟩) (v := ?v3) rfl (by kernel_rfl) (by kernel_rfl) (by kernel_rfl) (fun _ _ _ h => h) (Or.inl ⟨by rfl, ?y3⟩) (by assumption) ?r3
  case y3 => (intro wx hSx; (try dsimp only at hSx); go_simp; (try with_reducible rfl))
  try simp only [Act.put, List.setIfInBounds_toArray, List.set_cons_zero, List.set_cons_succ]
  refine wpAnyH_take (i := 3) (oi := ⟨some 30, _, _, _, _, _⟩) (v := ?v4) rfl (by kernel_rfl) (by kernel_rfl) (by kernel_rfl) (fun _ _ _ h => h) (Or.inl ⟨by rfl, ?y4⟩) (by assumption) ?r4
  case y4 => (intro wx hSx; (try dsimp only at hSx); go_simp; (try with_reducible rfl))
  try simp only [Act.put, List.setIfInBounds_toArray, List.set_cons_zero, List.set_cons_succ]
  refine wpAnyH_take (i := 4) (oi := ⟨some 31, _, _, _, _, _⟩) (v := ?v5) rfl (by kernel_rfl) (by kernel_rfl) (by kernel_rfl) (fun _ _ _ h => h) (Or.inl ⟨by rfl, ?y5⟩) (by assumption) ?r5
  case y5 => (intro wx hSx; (try dsimp only at hSx); go_simp; (try with_reducible rfl))
  try simp only [Act.put, List.setIfInBounds_toArray, List.set_cons_zero, List.set_cons_succ]
  refine wpAnyH_take (i := 5) (oi := ⟨some 32, _, _, _, _, _⟩) (v := ?v6) rfl (by kernel_rfl) (by kernel_rfl) (by kernel_rfl) (fun _ _ _ h => h) (Or.inl ⟨by rfl, ?y6⟩) (by assumption) ?r6
  case y6 => (intro wx hSx; (try dsimp only at hSx); go_simp; (try with_reducible rfl))
  try simp only [Act.put, List.setIfInBounds_toArray, List.set_cons_zero, List.set_cons_succ]
  try simp only [em3, em, q2]
  refine wpAnyH_take (i := 6) (oi := ⟨some 33, _, _, _, _, _⟩) (v := ?v7) rfl (by kernel_rfl) (by kernel_rfl) (by kernel_rfl) (fun _ _ _ h => h) (Or.inl ⟨by rfl, ?y7⟩) (by assumption) ?r7
  case y7 => (intro wx hSx; (try dsimp only at hSx); go_simp; (try with_reducible rfl))
  try simp only [Act.put, List.setIfInBounds_toArray, List.set_cons_zero, List.set_cons_succ]
  refine wpAnyH_take (i := 8) (oi := ⟨some 35, _, _, _, _, _⟩) (v := ?v8) rfl (by kernel_rfl) (by kernel_rfl) (by kernel_rfl) (fun _ _ _ h => h) (Or.inl ⟨by rfl, ?y8⟩) (by assumption) ?r8
  case y8 => (intro wx hSx; (try dsimp only at hSx); go_simp; (try with_reducible rfl))
  try simp only [Act.put, List.setIfInBounds_toArray, List.set_cons_zero, List.set_cons_succ]
  refine wpAnyH_take (i := 9) (oi := ⟨some 36, _, _, _, _, _⟩) (v := ?v9) rfl (by kernel_rfl) (by kernel_rfl) (by kernel_rfl) (fun _ _ _ h => h) (Or.inl ⟨by rfl, ?y9⟩) (by assumption) ?r9
  case y9 => (intro wx hSx; (try dsimp only at hSx); go_simp; (try with_reducible rfl))
  try simp only [Act.put, List.setIfInBounds_toArray, List.set_cons_zero, List.set_cons_succ]
  refine wpAnyH_take (i := 10) (oi := ⟨some 37, _, _, _, _, _⟩) (v := ?v10) rfl (by kernel_rfl) (by kernel_rfl) (by kernel_rfl) (fun _ _ _ h => h) (Or.inl ⟨by rfl, ?y10⟩) (by assumption) ?r10
  case y10 => (intro wx hSx; (try dsimp only at hSx); go_simp; (try with_reducible rfl))
  try simp only [Act.put, List.setIfInBounds_toArray, List.set_cons_zero, List.set_cons_succ]
  refine wpAnyH_take (i := 11) (oi := ⟨some 38, _, _, _, _, _⟩) (v := ?v11) rfl (by kernel_rfl) (by kernel_rfl) (by kernel_rfl) (fun _ _ _ h => h) (Or.inl ⟨by rfl, ?y11⟩) (by assumption) ?r11
  case y11 => (intro wx hSx; (try dsimp only at hSx); go_simp; (try with_reducible rfl))
  try simp only [Act.put, List.setIfInBounds_toArray, List.set_cons_zero, List.set_cons_succ]
  refine wpAnyH_ready (rs := [7]) (by kernel_rfl) (by simp) ?_
  refine AllReadyH.cons (o := ⟨some 34, _, _, _, _, _⟩) rfl (fun K hK => ?_) AllReadyH.nil
  go_simp
  go_wp2_with ((go_at_call 25; (with_reducible refine (Get_calls (n - k) hdk.out (HB3.out) ((HX.out.frm HF3.out (fun _ _ h => h)).drop k) 8 8 rfl (by decide) hdk8.out V HV.out).mono ?_); rintro e w3 ⟨rfl, h', f'⟩; have HF2 := hid (HF3.out.trans' f' (fun i hi e => absurd e (Nat.ne_of_lt (Nat.lt_of_lt_of_le hi HF.out.size)))); clear HF HF3 HB3 h' f'; have HF := HF2; clear HF2))
  refine hK.out _ _ ?_ (fun hHeld2 => ?_)
  · ((try dsimp only); (try trivial))
  clear hK K hHeld; have hHeld := hHeld2; clear hHeld2
  try simp only [Act.put, List.setIfInBounds_toArray, List.set_cons_zero, List.set_cons_succ]
  refine wpAnyH_ready (rs := [12]) (by kernel_rfl) (by simp) ?_
  refine AllReadyH.cons (o := ⟨some 39, _, _, _, _, _⟩) rfl (fun K hK => ?_) AllReadyH.nil
  go_simp
  go_wp2_with ((go_at_call 26; (with_reducible refine (RSum_calls ((HX.out.frm HF.out (fun _ _ h => h)).take k) k htk.out S HS.out).mono ?_); rintro e w4 ⟨rfl, rfl⟩))
  refine hK.out _ _ ?_ (fun hHeld2 => ?_)
  · ((try dsimp only); (try trivial))
  clear hK K hHeld; have hHeld := hHeld2; clear hHeld2
  try simp only [Act.put, List.setIfInBounds_toArray, List.set_cons_zero, List.set_cons_succ]
  refine wpAnyH_take (i := 13) (oi := ⟨some 40, _, _, _, _, _⟩) (v := ?v12) rfl (by kernel_rfl) (by kernel_rfl) (by kernel_rfl) (fun _ _ _ h => h) (Or.inl ⟨by rfl, ?y12⟩) (by assumption) ?r12
  case y12 => (intro wx hSx; (try dsimp only at hSx); go_simp; (try with_reducible rfl))
  try simp only [Act.put, List.setIfInBounds_toArray, List.set_cons_zero, List.set_cons_succ]
  refine wpAnyH_take (i := 14) (oi := ⟨some 41, _, _, _, _, _⟩) (v := ?v13) rfl (by kernel_rfl) (by kernel_rfl) (by kernel_rfl) (fun _ _ _ h => h) (Or.inl ⟨by rfl, ?y13⟩) (by assumption) ?r13
  case y13 => (intro wx hSx; (try dsimp only at hSx); go_simp; (try with_reducible rfl))
  try simp only [Act.put, List.setIfInBounds_toArray, List.set_cons_zero, List.set_cons_succ]
  refine wpAnyH_done (by kernel_rfl) ?_ _
  go_wp2
  go_ret3
  exact ⟨rfl, HF.out⟩
set_option maxHeartbeats 4000000 in
theorem RParse_c {w : World} {g off c : Nat} {x : List Int} (n k m : Nat) (hx : IsInts .u8 w (some ⟨g, off, none⟩) c x) (hn : x.length = n) (hl : n ≤ 40040) (hk : n = k + 8) (hm : k = m + 8) (T N V S : Int) (hT : vOf (x.take 4) = T) (hN : vOf ((x.drop 4).take 4) = N) (hV : vOf (x.drop k) = V) (hS : sFrom 14695981039346656037 (x.take k) = S) (hT0 : 0 ≤ T) (hT1 : T < 4294967296) (hne : N = (m : Int)) (hvs : V = S) :
    Calls Try.prog 10 #[.slice (some ⟨g, off, none⟩) n c] w fun e w' => e = .returned (.tuple #[.int .u32 T, .slice (some ⟨g, off + 8, none⟩) m (c - 8), .bool true]) ∧ Frm (fun _ => False) w w' := by
  have hle := hx.le
  rw [hn] at hle
  have hsm := hx.small
  have HX := hid hx; clear hx
  have HT := hid hT; have HN := hid hN; clear hT hN
  have HV := hid (show vOf ((x.drop k).take 8) = V by rw [List.take_of_length_le (by rw [List.length_drop]; omega)]; exact hV)
  have HS := hid hS; clear hS hV
  have h4 := hid (show 4 ≤ x.length by omega)
  have h4n := hid (show 4 < n by omega)
  have hd4 := hid (show (x.drop 4).length = n - 4 by rw [List.length_drop]; omega)
  have hd44 := hid (show 4 ≤ (x.drop 4).length by rw [List.length_drop]; omega)
  have hdk := hid (show (x.drop k).length = n - k by rw [List.length_drop]; omega)
  have hdk8 := hid (show 8 ≤ (x.drop k).length by rw [List.length_drop]; omega)
  have htk := hid (show (x.take k).length = k by rw [List.length_take]; omega)
  have e8 : (n : Int) - 8 = (k : Int) := by omega
  have e16 : (n : Int) - 16 = (m : Int) := by omega
  have em4 : IntKind.i64.wrap (k : Int) = (k : Int) := IntWalk.i64_in _ (by omega)
  have em3 : IntKind.i64.wrap (m : Int) = (m : Int) := IntWalk.i64_in _ (by omega)
  have em : IntKind.u64.wrap (m : Int) = (m : Int) := wrapsu _ (by omega) (by omega)
  have eT : IntKind.u32.wrap T = T := by rw [wrap_u32]; omega
  have kn : k ≤ n := by omega
  have kc : k ≤ c := by omega
  have k0 : (0 : Int) ≤ (k : Int) := by omega
  have k1 : (k : Int) ≤ (n : Int) := by omega
  have k2 : (k : Int) ≤ (c : Int) := by omega
  have k3 : (8 : Int) ≤ (k : Int) := by omega
  have ck : ¬ c = k := by omega
  have c8 : ¬ c = 8 := by omega
  have n16 : ¬ (n : Int) < 16 := by omega
  have HK := hid hk; have HM := hid hm; have hn' := hid hn; clear hk hm hn; have hn := hn'; clear hn' hle hl hT0 hT1
  have q1 : (N == (m : Int)) = true := beq_iff_eq.2 hne
  have q2 : (N != (m : Int)) = false := by rw [bne, q1]; rfl
  have hne' := hid hne; clear hne
  have q3 : (V == S) = true := beq_iff_eq.2 hvs
  have q4 : (V != S) = false := by rw [bne, q3]; rfl
  have hvs' := hid hvs; clear hvs
  have q5 : k - 8 = m := by have := HM.out; omega
  go_enter Try.func10, Try.ntmps10
  go_wp2_with (first
    | (go_at_call 25; (with_reducible refine (Get_calls n hn.out (Blk.new w [.slice (some ⟨g, off, none⟩) n c, .bool false] TRf) (HX.out.frm ((Frm.refl (fun _ => False) w).alloc _) (fun _ _ h => h)) 4 4 rfl (by decide) h4.out T HT.out).mono ?_); rintro e w1 ⟨rfl, h', f'⟩; have HR := hid (h' h4n.out); have HF := hid (fresh0 f'); clear h' f')
    | (go_at_call 25; (with_reducible refine (Get_calls (n - 4) hd4.out HR.out ((HX.out.frm HF.out (fun _ _ h => h)).drop 4) 4 4 rfl (by decide) hd44.out N HN.out).mono ?_); rintro e w2 ⟨rfl, h', f'⟩; have HF2 := hid (HF.out.trans' f' (fun i hi e => absurd e (Nat.ne_of_lt hi))); clear HF HR h' f'; have HF := HF2; clear HF2))
  have HB3 := hid (show Blk (w2.alloc (.cells #[.slice (some ⟨g, off + k, none⟩) (n - k) (c - k), .bool false] TRf)).drew w2.heap.size [.slice (some ⟨g, off + k, none⟩) (n - k) (c - k), .bool false] TRf from Blk.new w2 [.slice (some ⟨g, off + k, none⟩) (n - k) (c - k), .bool false] TRf)
  have HF3 := hid (show Frm (fun _ => False) w (w2.alloc (.cells #[.slice (some ⟨g, off + k, none⟩) (n - k) (c - k), .bool false] TRf)).drew from (HF.out.alloc _).drew)
  refine wp_region_held_drew (S := fun wx => True) (by kernel_rfl) (by trivial) (fun hHeld => ?_)
  refine wpAnyH_take (i := 0) (oi := ⟨some 27, _, _, _, _, _⟩) (v := ?v1) rfl (by kernel_rfl) (by kernel_rfl) (by kernel_rfl) (fun _ _ _ h => h) (Or.inl ⟨by rfl, ?y1⟩) (by assumption) ?r1
  case y1 => (intro wx hSx; (try dsimp only at hSx); go_simp; (try with_reducible rfl))
  try simp only [Act.put, List.setIfInBounds_toArray, List.set_cons_zero, List.set_cons_succ]
  refine wpAnyH_take (i := 1) (oi := ⟨some 28, _, _, _, _, _⟩) (v := ?v2) rfl (by kernel_rfl) (by kernel_rfl) (by kernel_rfl) (fun _ _ _ h => h) (Or.inl ⟨by rfl, ?y2⟩) (by assumption) ?r2
  case y2 => (intro wx hSx; (try dsimp only at hSx); go_simp; (try with_reducible rfl))
  try simp only [Act.put, List.setIfInBounds_toArray, List.set_cons_zero, List.set_cons_succ]
  refine wpAnyH_take (i := 2) (oi := ⟨some 29, _, _, _, _, _⟩) (v := ?v3) rfl (by kernel_rfl) (by kernel_rfl) (by kernel_rfl) (fun _ _ _ h => h) (Or.inl ⟨by rfl, ?y3⟩) (by assumption) ?r3
  case y3 => (intro wx hSx; (try dsimp only at hSx); go_simp; (try with_reducible rfl))
  try simp only [Act.put, List.setIfInBounds_toArray, List.set_cons_zero, List.set_cons_succ]
  refine wpAnyH_take (i := 3) (oi := ⟨some 30, _, _, _, _, _⟩) (v := ?v4) rfl (by kernel_rfl) (by kernel_rfl) (by kernel_rfl) (fun _ _ _ h => h) (Or.inl ⟨by rfl, ?y4⟩) (by assumption) ?r4
  case y4 => (intro wx hSx; (try dsimp only at hSx); go_simp; (try with_reducible rfl))
  try simp only [Act.put, List.setIfInBounds_toArray, List.set_cons_zero, List.set_cons_succ]
  refine wpAnyH_take (i := 4) (oi := ⟨some 31, _, _, _, _, _⟩) (v := ?v5) rfl (by kernel_rfl) (by kernel_rfl) (by kernel_rfl) (fun _ _ _ h => h) (Or.inl ⟨by rfl, ?y5⟩) (by assumption) ?r5
  case y5 => (intro wx hSx; (try dsimp only at hSx); go_simp; (try with_reducible rfl))
  try simp only [Act.put, List.setIfInBounds_toArray, List.set_cons_zero, List.set_cons_succ]
  refine wpAnyH_take (i := 5) (oi := ⟨some 32, _, _, _, _, _⟩) (v := ?v6) rfl (by kernel_rfl) (by kernel_rfl) (by kernel_rfl) (fun _ _ _ h => h) (Or.inl ⟨by rfl, ?y6⟩) (by assumption) ?r6
  case y6 => (intro wx hSx; (try dsimp only at hSx); go_simp; (try with_reducible rfl))
  try simp only [Act.put, List.setIfInBounds_toArray, List.set_cons_zero, List.set_cons_succ]
  try simp only [em3, em, q2]
  refine wpAnyH_take (i := 6) (oi := ⟨some 33, _, _, _, _, _⟩) (v := ?v7) rfl (by kernel_rfl) (by kernel_rfl) (by kernel_rfl) (fun _ _ _ h => h) (Or.inl ⟨by rfl, ?y7⟩) (by assumption) ?r7
  case y7 => (intro wx hSx; (try dsimp only at hSx); go_simp; (try with_reducible rfl))
  try simp only [Act.put, List.setIfInBounds_toArray, List.set_cons_zero, List.set_cons_succ]
  refine wpAnyH_take (i := 8) (oi := ⟨some 35, _, _, _, _, _⟩) (v := ?v8) rfl (by kernel_rfl) (by kernel_rfl) (by kernel_rfl) (fun _ _ _ h => h) (Or.inl ⟨by rfl, ?y8⟩) (by assumption) ?r8
  case y8 => (intro wx hSx; (try dsimp only at hSx); go_simp; (try with_reducible rfl))
  try simp only [Act.put, List.setIfInBounds_toArray, List.set_cons_zero, List.set_cons_succ]
  refine wpAnyH_take (i := 9) (oi := ⟨some 36, _, _, _, _, _⟩) (v := ?v9) rfl (by kernel_rfl) (by kernel_rfl) (by kernel_rfl) (fun _ _ _ h => h) (Or.inl ⟨by rfl, ?y9⟩) (by assumption) ?r9
  case y9 => (intro wx hSx; (try dsimp only at hSx); go_simp; (try with_reducible rfl))
  try simp only [Act.put, List.setIfInBounds_toArray, List.set_cons_zero, List.set_cons_succ]
  refine wpAnyH_take (i := 10) (oi := ⟨some 37, _, _, _, _, _⟩) (v := ?v10) rfl (by kernel_rfl) (by kernel_rfl) (by kernel_rfl) (fun _ _ _ h => h) (Or.inl ⟨by rfl, ?y10⟩) (by assumption) ?r10
  case y10 => (intro wx hSx; (try dsimp only at hSx); go_simp; (try with_reducible rfl))
  try simp only [Act.put, List.setIfInBounds_toArray, List.set_cons_zero, List.set_cons_succ]
  refine wpAnyH_take (i := 11) (oi := ⟨some 38, _, _, _, _, _⟩) (v := ?v11) rfl (by kernel_rfl) (by kernel_rfl) (by kernel_rfl) (fun _ _ _ h => h) (Or.inl ⟨by rfl, ?y11⟩) (by assumption) ?r11
  case y11 => (intro wx hSx; (try dsimp only at hSx); go_simp; (try with_reducible rfl))
  try simp only [Act.put, List.setIfInBounds_toArray, List.set_cons_zero, List.set_cons_succ]
  refine wpAnyH_ready (rs := [7]) (by kernel_rfl) (by simp) ?_
  refine AllReadyH.cons (o := ⟨some 34, _, _, _, _, _⟩) rfl (fun K hK => ?_) AllReadyH.nil
  go_simp
  go_wp2_with ((go_at_call 25; (with_reducible refine (Get_calls (n - k) hdk.out (HB3.out) ((HX.out.frm HF3.out (fun _ _ h => h)).drop k) 8 8 rfl (by decide) hdk8.out V HV.out).mono ?_); rintro e w3 ⟨rfl, h', f'⟩; have HF2 := hid (HF3.out.trans' f' (fun i hi e => absurd e (Nat.ne_of_lt (Nat.lt_of_lt_of_le hi HF.out.size)))); clear HF HF3 HB3 h' f'; have HF := HF2; clear HF2))
  refine hK.out _ _ ?_ (fun hHeld2 => ?_)
  · ((try dsimp only); (try trivial))
  clear hK K hHeld; have hHeld := hHeld2; clear hHeld2
  try simp only [Act.put, List.setIfInBounds_toArray, List.set_cons_zero, List.set_cons_succ]
  refine wpAnyH_ready (rs := [12]) (by kernel_rfl) (by simp) ?_
  refine AllReadyH.cons (o := ⟨some 39, _, _, _, _, _⟩) rfl (fun K hK => ?_) AllReadyH.nil
  go_simp
  go_wp2_with ((go_at_call 26; (with_reducible refine (RSum_calls ((HX.out.frm HF.out (fun _ _ h => h)).take k) k htk.out S HS.out).mono ?_); rintro e w4 ⟨rfl, rfl⟩))
  refine hK.out _ _ ?_ (fun hHeld2 => ?_)
  · ((try dsimp only); (try trivial))
  clear hK K hHeld; have hHeld := hHeld2; clear hHeld2
  try simp only [Act.put, List.setIfInBounds_toArray, List.set_cons_zero, List.set_cons_succ]
  refine wpAnyH_take (i := 13) (oi := ⟨some 40, _, _, _, _, _⟩) (v := ?v12) rfl (by kernel_rfl) (by kernel_rfl) (by kernel_rfl) (fun _ _ _ h => h) (Or.inl ⟨by rfl, ?y12⟩) (by assumption) ?r12
  case y12 => (intro wx hSx; (try dsimp only at hSx); go_simp; (try with_reducible rfl))
  try simp only [Act.put, List.setIfInBounds_toArray, List.set_cons_zero, List.set_cons_succ]
  refine wpAnyH_take (i := 14) (oi := ⟨some 41, _, _, _, _, _⟩) (v := ?v13) rfl (by kernel_rfl) (by kernel_rfl) (by kernel_rfl) (fun _ _ _ h => h) (Or.inl ⟨by rfl, ?y13⟩) (by assumption) ?r13
  case y13 => (intro wx hSx; (try dsimp only at hSx); go_simp; (try with_reducible rfl))
  try simp only [Act.put, List.setIfInBounds_toArray, List.set_cons_zero, List.set_cons_succ]
  refine wpAnyH_done (by kernel_rfl) ?_ _
  go_wp2
  go_region
  go_wp2
  go_ret3
  exact ⟨rfl, HF.out.drew⟩
theorem RParse_none {w : World} {a : Option Addr} {c : Nat} {x : List Int} (hx : IsInts .u8 w a c x) (hl : x.length ≤ 40040) (hp : parse x = none) :
    Calls Try.prog 10 #[.slice a x.length c] w fun e w' => e = .returned (.tuple #[.int .u32 0, .slice none 0 0, .bool false]) ∧ Frm (fun _ => False) w w' := by
  by_cases h16 : x.length < 16
  · exact RParse_short _ h16
  obtain ⟨g, off, rfl, _⟩ := hx.at_ (by omega)
  have hT := vOf_take_bound x hx.wf 4 (by decide) (by omega)
  rw [show (256 : Int) ^ 4 = 4294967296 from rfl] at hT
  by_cases hs : vOf ((x.drop 4).take 4) = ((x.length - 16 : Nat) : Int)
  · by_cases hv : vOf (x.drop (x.length - 8)) = sFrom 14695981039346656037 (x.take (x.length - 8))
    · unfold parse at hp
      rw [if_neg h16, if_neg (by omega), if_neg (by simpa using hv)] at hp
      cases hp
    · exact RParse_b x.length (x.length - 8) (x.length - 16) hx rfl hl (by omega) (by omega) _ _ _ _ rfl rfl rfl rfl hT.1 hT.2 hs hv
  · exact RParse_a x.length (x.length - 8) (x.length - 16) hx rfl hl (by omega) (by omega) _ _ _ _ rfl rfl rfl rfl hT.1 hT.2 hs
theorem RParse_some {w : World} {a : Option Addr} {c : Nat} {x : List Int} (hx : IsInts .u8 w a c x) (hl : x.length ≤ 40040) (t : Int) (b : List Int) (hp : parse x = some (t, b)) :
    Calls Try.prog 10 #[.slice a x.length c] w fun e w' => ∃ A k, e = .returned (.tuple #[.int .u32 t, .slice A b.length k, .bool true]) ∧ IsInts .u8 w' A k b ∧ Frm (fun _ => False) w w' := by
  unfold parse at hp
  by_cases h16 : x.length < 16
  · rw [if_pos h16] at hp; cases hp
  rw [if_neg h16] at hp
  by_cases hs : vOf ((x.drop 4).take 4) ≠ (x.length : Int) - 16
  · rw [if_pos hs] at hp; cases hp
  rw [if_neg hs] at hp
  by_cases hv : vOf (x.drop (x.length - 8)) ≠ sFrom 14695981039346656037 (x.take (x.length - 8))
  · rw [if_pos hv] at hp; cases hp
  rw [if_neg hv] at hp
  obtain ⟨rfl, rfl⟩ := Prod.mk.inj (Option.some.inj hp)
  obtain ⟨g, off, rfl, _⟩ := hx.at_ (by omega)
  have hT := vOf_take_bound x hx.wf 4 (by decide) (by omega)
  rw [show (256 : Int) ^ 4 = 4294967296 from rfl] at hT
  have hbl : ((x.drop 8).take (x.length - 16)).length = x.length - 16 := by rw [List.length_take, List.length_drop]; omega
  rw [hbl]
  refine (RParse_c x.length (x.length - 8) (x.length - 16) hx rfl hl (by omega) (by omega) _ _ _ _ rfl rfl rfl rfl hT.1 hT.2 (by omega) (Decidable.not_not.1 hv)).mono ?_
  rintro e w' ⟨rfl, f'⟩
  exact ⟨_, _, rfl, ((hx.frm f' (fun _ _ h => h)).drop 8).take _, f'⟩
end Go.Proofs.Ytnlmabdbpjbhoaa
