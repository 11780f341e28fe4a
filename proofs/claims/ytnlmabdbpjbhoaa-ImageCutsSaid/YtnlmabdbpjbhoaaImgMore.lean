/- Images: one byte turned, cut off; reading what is one's own; what is too long. -/
import Derived.Test.YtnlmabdbpjbhoaaImgKnown
namespace Go.Proofs.Ytnlmabdbpjbhoaa
open Go.RowKit Go.ChangeShapes
set_option linter.unusedVariables false
set_option linter.unusedSimpArgs false
theorem fold_inj : ∀ (r r' : List Int), r.length = r'.length → Bts r → Bts r' → ∀ (n m : Int) (j : Nat), 0 ≤ n → n < 256 ^ j → 0 ≤ m → m < 256 ^ j → j + r.length ≤ 8 → r.foldl vStep n = r'.foldl vStep m → n = m ∧ r = r' := by
  intro r
  induction r with
  | nil =>
    intro r' hl _ _ n m j _ _ _ _ _ h
    obtain rfl : r' = [] := List.eq_nil_of_length_eq_zero (by simpa using hl.symm)
    exact ⟨h, rfl⟩
  | cons c r ih =>
    intro r' hl hb hb' n m j n0 n1 m0 m1 hj h
    cases r' with
    | nil => simp at hl
    | cons d r' =>
      rw [List.length_cons] at hj
      have hc := hb c List.mem_cons_self
      have hd := hb' d List.mem_cons_self
      have hp : (256 : Int) ^ j ≤ 256 ^ 7 := by
        have : (256 : Nat) ^ j ≤ 256 ^ 7 := Nat.pow_le_pow_right (by decide) (by omega)
        have h2 : ((256 ^ j : Nat) : Int) ≤ ((256 ^ 7 : Nat) : Int) := Int.ofNat_le.2 this
        simpa using h2
      have hp7 : (256 : Int) ^ 7 = 72057594037927936 := by decide
      have hs : (256 : Int) ^ (j + 1) = 256 ^ j * 256 := Int.pow_succ ..
      have e1 := vStep_eq n c n0 (by omega) hc.1 hc.2
      have e2 := vStep_eq m d m0 (by omega) hd.1 hd.2
      have := ih r' (by simpa using hl) (fun x hx => hb x (List.mem_cons_of_mem _ hx)) (fun x hx => hb' x (List.mem_cons_of_mem _ hx)) (vStep n c) (vStep m d) (j + 1) (by omega) (by omega) (by omega) (by omega) (by omega) h
      obtain ⟨h1, rfl⟩ := this
      obtain ⟨rfl, rfl⟩ : n = m ∧ c = d := by omega
      exact ⟨rfl, rfl⟩
theorem vOf_inj (l l' : List Int) (hl : l.length = l'.length) (h8 : l.length ≤ 8) (hb : Bts l) (hb' : Bts l') (h : vOf l = vOf l') : l = l' :=
  (fold_inj l l' hl hb hb' 0 0 0 (by decide) (by decide) (by decide) (by decide) (by omega) h).2
theorem bts_frame (t : Int) {b : List Int} (hb : Bts b) : Bts (frame t b) := bts_app (bts_frame0 t hb) (bts_be _ _)
theorem frame_sum (t : Int) (b : List Int) (h0 : 0 ≤ t) (h1 : t < 4294967296) (hb : Bts b) (hl : b.length < 4294967296) :
    vOf ((frame t b).drop ((frame t b).length - 8)) = sFrom 14695981039346656037 ((frame t b).take ((frame t b).length - 8)) := by
  have hp := parse_frame t b h0 h1 hb hl
  unfold parse at hp
  split at hp
  · cases hp
  split at hp
  · cases hp
  split at hp
  · cases hp
  · exact Decidable.not_not.1 (by assumption)
theorem bts_set {l : List Int} (hl : Bts l) (k : Nat) (d : Int) (hd : 0 ≤ d ∧ d ≤ 255) : Bts (l.set k d) := fun x hx => by
  rcases List.mem_or_eq_of_mem_set hx with h | rfl
  · exact hl x h
  · exact hd
/-- One byte is turned: that is no image. -/
theorem parse_set (t : Int) (b : List Int) (h0 : 0 ≤ t) (h1 : t < 4294967296) (hb : Bts b) (hl : b.length < 4294967296) (k : Nat) (hk : k < b.length + 16) (d : Int) (hd : 0 ≤ d ∧ d ≤ 255) (hne : (frame t b).getD k 0 ≠ d) :
    parse ((frame t b).set k d) = none := by
  have hs := frame_sum t b h0 h1 hb hl
  have hB := bts_frame t hb
  have hlen := frame_len t b
  generalize frame t b = F at *
  have hset : (F.set k d).length = F.length := List.length_set
  have key : vOf ((F.set k d).drop (F.length - 8)) ≠ sFrom 14695981039346656037 ((F.set k d).take (F.length - 8)) := by
    by_cases hlt : k < F.length - 8
    · rw [List.drop_set, if_pos hlt, List.take_set, hs]
      refine Ne.symm (sFrom_set _ (fun x hx => hB x (List.mem_of_mem_take hx)) d hd k _ (by decide) (by rw [List.length_take]; omega) ?_)
      rw [List.getD_eq_getElem?_getD, List.getElem?_take, if_pos hlt, ← List.getD_eq_getElem?_getD]
      exact hne
    · have ht : (F.take (F.length - 8)).set k d = F.take (F.length - 8) := List.set_eq_of_length_le (by rw [List.length_take]; omega)
      rw [List.drop_set, if_neg hlt, List.take_set, ht, ← hs]
      intro h
      have hdb : Bts (F.drop (F.length - 8)) := fun x hx => hB x (List.mem_of_mem_drop hx)
      have := vOf_inj _ _ (by rw [List.length_set]) (by rw [List.length_set, List.length_drop]; omega) (bts_set hdb _ d hd) hdb h
      have h2 := congrArg (fun l => l[k - (F.length - 8)]?) this
      rw [List.getElem?_set, if_pos rfl, if_pos (by rw [List.length_drop]; omega), List.getElem?_drop, show F.length - 8 + (k - (F.length - 8)) = k by omega] at h2
      rw [List.getD_eq_getElem?_getD, ← h2] at hne
      exact hne rfl
  unfold parse
  rw [hset]
  split
  · rfl
  split
  · rfl
  first | rfl | rw [if_pos key]
/-- What is cut off is no image. -/
theorem parse_cut (t : Int) (b : List Int) (hl : b.length < 4294967296) (m : Nat) (hm : m < b.length + 16) : parse ((frame t b).take m) = none := by
  have hlen : ((frame t b).take m).length = m := by rw [List.length_take, frame_len]; omega
  have e1 : frame t b = be t 4 ++ (be (b.length : Int) 4 ++ (b ++ be (sFrom 14695981039346656037 (frame0 t b)) 8)) := by simp [frame, frame0, List.append_assoc]
  unfold parse
  rw [hlen]
  by_cases h16 : m < 16
  · rw [if_pos h16]
  rw [if_neg h16]
  have : (((frame t b).take m).drop 4).take 4 = be (b.length : Int) 4 := by
    rw [List.drop_take, List.take_take, show min 4 (m - 4) = 4 by omega, e1, List.drop_left' (be_len _ _), List.take_left' (be_len _ _)]
  rw [this, vOf_be4 _ (by omega) (by omega), if_pos (by omega)]
theorem Read_own1 {w : World} {b : Nat} {x0 x1 : List Int} {ar : Bool} {n : Int} (h : IsDk w b x0 x1 ar n) (L : Nat) (hL : x1.length = L) (hne : L ≠ 0) : Calls Try.prog 18 #[.pointer (some ⟨b, 0, none⟩), .int .i64 1] w fun e w' =>
    e = .returned (.slice (some ⟨w.heap.size, 0, none⟩) L L) ∧ Blk w' w.heap.size (byt x1) TU8 ∧ (∀ n ∈ x1, (Lit.int .u8 n).wf = true) ∧ Below w.heap.size w w' := by
  subst hL
  obtain ⟨A0, c0, A1, c1, hb, h0, h1⟩ := h.blk
  have q1 := hb.cell 1
  simp only [List.getElem?_cons_succ, List.getElem?_cons_zero] at q1
  have l1 := h.l1
  have hz' : decide ((x1.length : Int) = 0) = false := decide_eq_false (by omega)
  have hz2 : ((x1.length : Int) == 0) = false := beq_eq_false_iff_ne.2 (by omega)
  clear hb h
  go_enter Try.func18, Try.ntmps18
  go_wp2_with (go_at_call 32; (with_reducible refine (dcopied_calls _ _ _ x1 _ rfl h1.ints (by omega)).mono ?_); rintro e w' ⟨rfl, hb', f'⟩)
  go_ret
  exact ⟨rfl, hb', h1.ints.wf, f'⟩
set_option maxHeartbeats 2000000 in
theorem Save_long {w : World} {b : Nat} {x0 x1 : List Int} {ar : Bool} {n : Int} (h : IsDk w b x0 x1 ar n) (bs : List Int) (t i : Int) (hi : img x0 x1 = some (bs, t, i)) {a : Option Addr} {c l : Nat} (hl : 40000 < (l : Int)) :
    Calls Try.prog 17 #[.pointer (some ⟨b, 0, none⟩), .slice a l c] w fun e w' => e = .returned (.int .i64 21) ∧ Frm (fun _ => False) w w' := by
  have HD := hid h; have hi2 := hid hi
  clear h hi
  go_enter Try.func17, Try.ntmps17
  go_wp2_with (first
    | (go_at_call 33; (with_reducible refine (Last_some HD.out bs t _ hi2.out).mono ?_); rintro e w1 ⟨g, rfl, hg, hB, f'⟩))
  go_ret
  exact ⟨rfl, f'⟩
end Go.Proofs.Ytnlmabdbpjbhoaa
