/- EstimMost, walked: the bound is eight above the greatest of what the three others tell. -/
import Derived.Test.YtcdnojmmkkfdnaaEstimKnown
import Derived.Test.YtcdnojmmkkfdnaaTypes
import Derived.OpenShut
namespace Go.Proofs.Ytcdnojmmkkfdnaa
open Go.RowKit Go.ChangeShapes
/-- What the one who asks keeps to in this law. -/
structure Asks (id c : Int) (s : Es) : Prop where
  self : s.self = id
  count : s.count = c
  own : s.at_ id = false
  z0 : s.t0 = false → s.s0 = 0
  z1 : s.t1 = false → s.s1 = 0
  z2 : s.t2 = false → s.s2 = 0
  z3 : s.t3 = false → s.s3 = 0
  ok : s.Ok
theorem asks_new (id c : Int) : Asks id c (esNew id c) := ⟨rfl, rfl, by unfold Es.at_ esNew; (repeat' split) <;> rfl, fun _ => rfl, fun _ => rfl, fun _ => rfl, fun _ => rfl, ⟨by simp [esNew], by simp [esNew], by simp [esNew], by simp [esNew]⟩⟩
theorem asks_cnt {id c : Int} {s : Es} (h : Asks id c s) (h0 : 0 ≤ id) (h1 : id < 4) : 0 ≤ s.cnt 4 ∧ s.cnt 4 ≤ 3 := by
  have ho := h.own
  have c5 : id = 0 ∨ id = 1 ∨ id = 2 ∨ id = 3 := by omega
  unfold Es.cnt
  rcases c5 with rfl | rfl | rfl | rfl <;> simp [Es.at_] at ho <;> rw [ho] <;> ((repeat' split) <;> first | omega | simp_all)
theorem asks_top {id c : Int} {s : Es} (h : Asks id c s) : 0 ≤ s.top 4 ∧ s.top 4 ≤ 1073741824 := by
  obtain ⟨h0, h1, h2, h3⟩ := h.ok
  simp [Es.top]; omega
theorem asks_takes {id c : Int} {s : Es} (h : Asks id c s) (f q : Int) (f1 : f < 4) (q0 : q % 4 = 0) (q1 : q ≤ 1020) :
    s.takes f c q = (decide (f ≠ id) && !s.at_ f) := by
  unfold Es.takes
  rw [h.self, h.count, decide_eq_false (show ¬ f ≥ 4 by omega), decide_eq_false (show ¬ c ≠ c by omega), decide_eq_false (show ¬ q % 4 ≠ 0 by omega), decide_eq_false (show ¬ q > 1073741824 by omega)]
  simp
theorem asks_no {id c : Int} {s : Es} (h : Asks id c s) (_c0 : 0 ≤ c ∧ c ≤ 255) (f q : Int) : s.takes f ((c + 1) % 256) q = false ∧ s.add f ((c + 1) % 256) q = s := by
  have ht : s.takes f ((c + 1) % 256) q = false := by
    unfold Es.takes
    rw [decide_eq_true (show (c + 1) % 256 ≠ s.count by rw [h.count]; omega)]; simp
  exact ⟨ht, by unfold Es.add; rw [if_neg (by rw [ht]; decide)]⟩
theorem asks_set {id c : Int} {s : Es} (h : Asks id c s) (f q : Int) (f0 : 0 ≤ f) (f1 : f < 4) (hne : f ≠ id) (hat : s.at_ f = false) (q0 : 0 ≤ q) (q1 : q ≤ 1020) :
    Asks id c (s.set f q) ∧ (s.set f q).at_ f = true ∧ (s.set f q).top 4 = max (s.top 4) q ∧ (s.set f q).cnt 4 = s.cnt 4 + 1 := by
  obtain ⟨h1, h2, h3, h4, h5, h6, h7, g0, g1, g2, g3⟩ := h
  have c5 : f = 0 ∨ f = 1 ∨ f = 2 ∨ f = 3 := by omega
  rcases c5 with rfl | rfl | rfl | rfl
  · have hz := h4 hat
    refine ⟨⟨h1, h2, ?_, fun h => by simp [Es.set] at h, h5, h6, h7, ⟨⟨q0, by show q ≤ _; omega⟩, g1, g2, g3⟩⟩, rfl, by simp [Es.top, Es.set]; omega, ?_⟩
    · rw [← h3]; unfold Es.at_; rw [if_neg (Ne.symm hne), if_neg (Ne.symm hne)]; rfl
    · have : s.t0 = false := hat
      simp [Es.cnt, Es.set, this]; try omega
  · have hz := h5 hat
    refine ⟨⟨h1, h2, ?_, h4, fun h => by simp [Es.set] at h, h6, h7, ⟨g0, ⟨q0, by show q ≤ _; omega⟩, g2, g3⟩⟩, rfl, by simp [Es.top, Es.set]; omega, ?_⟩
    · rw [← h3]; unfold Es.at_; rw [if_neg (Ne.symm hne), if_neg (Ne.symm hne)]; rfl
    · have : s.t1 = false := hat
      simp [Es.cnt, Es.set, this]; try omega
  · have hz := h6 hat
    refine ⟨⟨h1, h2, ?_, h4, h5, fun h => by simp [Es.set] at h, h7, ⟨g0, g1, ⟨q0, by show q ≤ _; omega⟩, g3⟩⟩, rfl, by simp [Es.top, Es.set]; omega, ?_⟩
    · rw [← h3]; unfold Es.at_; rw [if_neg (Ne.symm hne), if_neg (Ne.symm hne)]; rfl
    · have : s.t2 = false := hat
      simp [Es.cnt, Es.set, this]; try omega
  · have hz := h7 hat
    refine ⟨⟨h1, h2, ?_, h4, h5, h6, fun h => by simp [Es.set] at h, ⟨g0, g1, g2, ⟨q0, by show q ≤ _; omega⟩⟩⟩, rfl, by simp [Es.top, Es.set]; omega, ?_⟩
    · rw [← h3]; unfold Es.at_; rw [if_neg (Ne.symm hne), if_neg (Ne.symm hne)]; rfl
    · have : s.t3 = false := hat
      simp [Es.cnt, Es.set, this]; try omega
theorem map_get {k : IntKind} {xs : List Int} {i : Nat} (h : i < xs.length) : (xs.map (Value.int k))[i]? = some (.int k (xs.getD i 0)) := by
  rw [List.getElem?_map, List.getD_eq_getElem?_getD, List.getElem?_eq_getElem h]; rfl
theorem getD_mem {zs : List Int} {k : Nat} (h : k < zs.length) : zs.getD k 0 ∈ zs := by
  rw [List.getD_eq_getElem?_getD, List.getElem?_eq_getElem h]; exact List.getElem_mem h
set_option maxRecDepth 100000 in
set_option maxHeartbeats 4000000 in
theorem EstimMost_walk (self c : Int) (l2 : List Value) (x2 : List Int) (l3 : List Value) (x3 : List Int) (w : World) (w0 : (Lit.int .u8 self).wf = true) (w1 : (Lit.int .u8 c).wf = true) (w2 : c41.K w x2 l2) (w3 : c41.K w x3 l3) :
    Calls Try.prog 5 #[.int .u8 self, .int .u8 c, .agg l2.toArray, .agg l3.toArray] w fun e w' => e = .returned (.bool true) ∧ Below w.heap.size w w' := by
  have b0 := bounds_u8 w0
  have b1 := bounds_u8 w1
  obtain ⟨rfl, hl2, hw2⟩ := k41 w2
  obtain ⟨rfl, hl3, hw3⟩ := k41 w3
  clear w0 w1 w2 w3
  obtain ⟨q0, q1, q2, q3, rfl⟩ : ∃ q0 q1 q2 q3, x2 = [q0, q1, q2, q3] := by
    match x2, hl2 with
    | [q0, q1, q2, q3], _ => exact ⟨_, _, _, _, rfl⟩
  obtain ⟨o0, o1, o2, o3, rfl⟩ : ∃ o0 o1 o2 o3, x3 = [o0, o1, o2, o3] := by
    match x3, hl3 with
    | [q0, q1, q2, q3], _ => exact ⟨_, _, _, _, rfl⟩
  have hid4 : 0 ≤ self % 4 ∧ self % 4 < 4 := by omega
  simp only [List.map_cons, List.map_nil]
  have W2 := hid hw2; clear hw2
  have W3 := hid hw3; clear hw3
  clear hl2 hl3
  go_enter Try.func5, Try.ntmps5
  go_wp2_with (fail)
  have h6 : Blk ((w.alloc (.cells #[.int .u8 q0, .int .u8 q1, .int .u8 q2, .int .u8 q3] 41)).alloc (.cells #[.int .u8 o0, .int .u8 o1, .int .u8 o2, .int .u8 o3] 41)) w.heap.size [.int .u8 q0, .int .u8 q1, .int .u8 q2, .int .u8 q3] 41 := (Blk.new _ _ _).alloc _
  have h7 : Blk ((w.alloc (.cells #[.int .u8 q0, .int .u8 q1, .int .u8 q2, .int .u8 q3] 41)).alloc (.cells #[.int .u8 o0, .int .u8 o1, .int .u8 o2, .int .u8 o3] 41)) (w.heap.size + 1) [.int .u8 o0, .int .u8 o1, .int .u8 o2, .int .u8 o3] 41 := by
    have := Blk.new (w.alloc (.cells #[.int .u8 q0, .int .u8 q1, .int .u8 q2, .int .u8 q3] 41)) [.int .u8 o0, .int .u8 o1, .int .u8 o2, .int .u8 o3] 41
    simpa using this
  have hf0 : Below w.heap.size w ((w.alloc (.cells #[.int .u8 q0, .int .u8 q1, .int .u8 q2, .int .u8 q3] 41)).alloc (.cells #[.int .u8 o0, .int .u8 o1, .int .u8 o2, .int .u8 o3] 41)) :=
    ((Below.refl _ _).alloc (Nat.le_refl _) _).alloc (by simp) _
  generalize ((w.alloc (.cells #[.int .u8 q0, .int .u8 q1, .int .u8 q2, .int .u8 q3] 41)).alloc (.cells #[.int .u8 o0, .int .u8 o1, .int .u8 o2, .int .u8 o3] 41)) = wz at *
  --GEN
  go_wp2_with (first
      | (go_at_call 6; (with_reducible refine (known_calls _).mono ?_); rintro e w1 ⟨rfl, f1⟩)
      | (go_at_call 7; (with_reducible refine (ENew_calls (self % 4) c _).mono ?_); rintro e w2 ⟨b, hb0, rfl, h2, f2⟩))
  have g6 := (h6.below f1 h6.lt).frm f2 (fun h => h)
  have g7 := (h7.below f1 h7.lt).frm f2 (fun h => h)
  have l6 := (h6.below f1 h6.lt).lt
  have l7 := (h7.below f1 h7.lt).lt
  have f4 := below_frm0 (below_next hf0 f1) f2
  have hn6 : w.heap.size ≠ b := by omega
  have hn7 : w.heap.size + 1 ≠ b := by omega
  have hb : w.heap.size ≤ b := by omega
  have ha := asks_new (self % 4) c
  have htop : (esNew (self % 4) c).top 4 = 0 := by simp [Es.top, esNew]
  have hcnt : (esNew (self % 4) c).cnt 4 = 0 := by simp [Es.cnt, esNew]
  generalize esNew (self % 4) c = s0 at *
  generalize hfi : self % 4 = fi at *
  clear h6 h7 f1 f2 hf0 l6 l7 hb0 hfi
  go_loopw [11, 12, 13] (fun m n i wr => ∃ (k : Nat) (s : Es), k ≤ 4 ∧ i = .int .i64 k ∧ m = .int .u32 (s.top 4) ∧ n = .int .i64 (s.cnt 4) ∧ IsEs wr b s ∧ Asks fi c s ∧
    Blk wr w.heap.size [.int .u8 q0, .int .u8 q1, .int .u8 q2, .int .u8 q3] 41 ∧ Blk wr (w.heap.size + 1) [.int .u8 o0, .int .u8 o1, .int .u8 o2, .int .u8 o3] 41 ∧ Below w.heap.size w wr) (fun _ _ i _ => 4 - (intOf i).toNat)
  case atStart => exact ⟨0, s0, by omega, rfl, by rw [htop], by rw [hcnt], h2, ha, g6, g7, f4⟩
  case round =>
    clear h2 ha g6 g7 f4 htop hcnt
    obtain ⟨k, s, hk, rfl, rfl, rfl, hs, ha, g6, g7, hf⟩ := hrel
    have cn := asks_cnt ha hid4.1 hid4.2
    have tp := asks_top ha
    have HS := hid hs; clear hs
    have H6 := hid g6; clear g6
    have H7 := hid g7; clear g7
    have HF := hid hf; clear hf
    by_cases hlt : k < 4
    · obtain ⟨f5, hf5⟩ : ∃ f5, [o0, o1, o2, o3].getD k 0 = f5 := ⟨_, rfl⟩
      obtain ⟨q5, hq5⟩ : ∃ q5, [q0, q1, q2, q3].getD k 0 = q5 := ⟨_, rfl⟩
      have y7 : wr.cell? ⟨w.heap.size + 1, k, none⟩ = some (.int .u8 f5) := by rw [H7.out.cell k, ← hf5]; exact map_get (xs := [o0, o1, o2, o3]) hlt
      have y6 : wr.cell? ⟨w.heap.size, k, none⟩ = some (.int .u8 q5) := by rw [H6.out.cell k, ← hq5]; exact map_get (xs := [q0, q1, q2, q3]) hlt
      have bf := bounds_u8 (W3.out f5 (by rw [← hf5]; exact getD_mem hlt))
      have bq := bounds_u8 (W2.out q5 (by rw [← hq5]; exact getD_mem hlt))
      clear hf5 hq5
      have f0 : 0 ≤ f5 % 4 := by omega
      have f1 : f5 % 4 < 4 := by omega
      have q0' : 0 ≤ q5 * 4 := by omega
      have qz : q5 * 4 % 4 = 0 := by omega
      have qh : q5 * 4 ≤ 1020 := by omega
      have hcw : (c + 1) % 256 % 256 = (c + 1) % 256 := by omega
      clear hcw
      generalize hf : f5 % 4 = f at *
      generalize hq : q5 * 4 = q at *
      have tk := asks_takes ha f q f1 qz qh
      by_cases hv : f ≠ fi ∧ s.at_ f = false
      · obtain ⟨v1, v2⟩ := hv
        have v1b : (f != fi) = true := bne_iff_ne.2 v1
        obtain ⟨ha', at', tp', cn'⟩ := asks_set ha f q f0 f1 v1 v2 q0' qh
        rw [decide_eq_true v1, v2] at tk
        have S1 : Hid (s.add f c q = s.set f q) := by unfold Es.add; rw [if_pos (by rw [tk]; rfl)]; exact rfl
        have T1 := hid tk; clear tk
        have tk2 := asks_takes ha' f q f1 qz qh
        rw [at'] at tk2; simp only [Bool.not_true, Bool.and_false] at tk2
        have S2 : Hid ((s.set f q).add f c q = s.set f q) := by unfold Es.add; rw [if_neg (by rw [tk2]; decide)]; exact rfl
        have T2 := hid tk2; clear tk2
        obtain ⟨t3, s3⟩ := asks_no ha' b1 f (q + 4)
        have T3 := hid t3; clear t3
        have S3 := hid s3; clear s3
        have HA := hid v2; clear v2
        have HK := hid ha'; clear ha'
        have OK := hid HK.out.ok
        have cn2 := asks_cnt HK.out hid4.1 hid4.2
        have tp2 := asks_top HK.out
        clear at' ha
        generalize s.set f q = st at *
        rw [cn'] at cn2
        rw [tp'] at tp2
        generalize s.cnt 4 = n at *
        generalize s.top 4 = m at *
        have e2 : (if m < q then q else m) = max m q := by split <;> omega
        have CN := hid cn'; clear cn'
        have TP := hid tp'; clear tp'
        generalize max m q = m1 at *
        clear v1
        by_cases h3 : n + 1 < 3
        · have BB : Hid ((if n + 1 < 3 then 0 else m1 + 8) = (0 : Int)) := by rw [if_pos h3]; exact rfl
          have BC : Hid (decide (3 ≤ n + 1) = false) := decide_eq_false (by omega)
          have hn3 : (n + 1 == 3) = false := beq_eq_false_iff_ne.2 (by omega)
          go_wp2_with (first
              | (go_at_call 12; (with_reducible refine (Has_calls b _ _ HS.out f f0).mono ?_); rintro e w' ⟨rfl, rfl⟩; rw [HA.out])
              | (go_at_call 8; (with_reducible refine (Add_calls b _ _ HS.out f c q f0 q0').mono ?_); rintro e w' ⟨rfl, h', f'⟩; rw [T1.out]; rw [S1.out] at h'; have n0_ := hid (H6.out.frm f' hn6); have n1_ := hid (H7.out.frm f' hn7); have nf_ := hid (below_frm1 HF.out f' hb); clear HF f' HS H6 H7; have HF := nf_; clear nf_; have HS := hid h'; clear h'; have H6 := n0_; clear n0_; have H7 := n1_; clear n1_)
              | (go_at_call 8; (with_reducible refine (Add_calls b _ _ HS.out f c q f0 q0').mono ?_); rintro e w' ⟨rfl, h', f'⟩; rw [T2.out]; rw [S2.out] at h'; have n0_ := hid (H6.out.frm f' hn6); have n1_ := hid (H7.out.frm f' hn7); have nf_ := hid (below_frm1 HF.out f' hb); clear HF f' HS H6 H7; have HF := nf_; clear nf_; have HS := hid h'; clear h'; have H6 := n0_; clear n0_; have H7 := n1_; clear n1_)
              | (go_at_call 8; (with_reducible refine (Add_calls b _ _ HS.out f ((c + 1) % 256) (q + 4) f0 (by omega)).mono ?_); rintro e w' ⟨rfl, h', f'⟩; rw [T3.out]; rw [S3.out] at h'; have n0_ := hid (H6.out.frm f' hn6); have n1_ := hid (H7.out.frm f' hn7); have nf_ := hid (below_frm1 HF.out f' hb); clear HF f' HS H6 H7; have HF := nf_; clear nf_; have HS := hid h'; clear h'; have H6 := n0_; clear n0_; have H7 := n1_; clear n1_)
              | (go_at_call 10; (with_reducible refine (Bound_calls b _ _ HS.out OK.out).mono ?_); rintro e w' ⟨rfl, f'⟩; rw [CN.out, TP.out]; rw [BB.out, BC.out]; have n0_ := hid (HS.out.frm f' (fun h => h)); have n1_ := hid (H6.out.frm f' (fun h => h)); have n2_ := hid (H7.out.frm f' (fun h => h)); have nf_ := hid (below_frm0 HF.out f'); clear HF f' HS H6 H7; have HF := nf_; clear nf_; have HS := n0_; clear n0_; have H6 := n1_; clear n1_; have H7 := n2_; clear n2_)
              | (go_at_call 13; (with_reducible refine (Len_calls b _ _ HS.out).mono ?_); rintro e w' ⟨rfl, f'⟩; rw [CN.out]; have n0_ := hid (HS.out.frm f' (fun h => h)); have n1_ := hid (H6.out.frm f' (fun h => h)); have n2_ := hid (H7.out.frm f' (fun h => h)); have nf_ := hid (below_frm0 HF.out f'); clear HF f' HS H6 H7; have HF := nf_; clear nf_; have HS := n0_; clear n0_; have H6 := n1_; clear n1_; have H7 := n2_; clear n2_))
          go_roundw
          case rel => exact ⟨k + 1, st, by omega, by go_num, by rw [TP.out], by rw [CN.out], HS.out, HK.out, H6.out, H7.out, HF.out⟩
          case measure => simp [intOf]; omega
        · have hn2 : n = 2 := by omega
          subst hn2
          have BB : Hid ((if (2 : Int) + 1 < 3 then 0 else m1 + 8) = m1 + 8) := by rw [if_neg (by decide)]; exact rfl
          have BC : Hid (decide (3 ≤ (2 : Int) + 1) = true) := rfl
          go_wp2_with (first
              | (go_at_call 12; (with_reducible refine (Has_calls b _ _ HS.out f f0).mono ?_); rintro e w' ⟨rfl, rfl⟩; rw [HA.out])
              | (go_at_call 8; (with_reducible refine (Add_calls b _ _ HS.out f c q f0 q0').mono ?_); rintro e w' ⟨rfl, h', f'⟩; rw [T1.out]; rw [S1.out] at h'; have n0_ := hid (H6.out.frm f' hn6); have n1_ := hid (H7.out.frm f' hn7); have nf_ := hid (below_frm1 HF.out f' hb); clear HF f' HS H6 H7; have HF := nf_; clear nf_; have HS := hid h'; clear h'; have H6 := n0_; clear n0_; have H7 := n1_; clear n1_)
              | (go_at_call 8; (with_reducible refine (Add_calls b _ _ HS.out f c q f0 q0').mono ?_); rintro e w' ⟨rfl, h', f'⟩; rw [T2.out]; rw [S2.out] at h'; have n0_ := hid (H6.out.frm f' hn6); have n1_ := hid (H7.out.frm f' hn7); have nf_ := hid (below_frm1 HF.out f' hb); clear HF f' HS H6 H7; have HF := nf_; clear nf_; have HS := hid h'; clear h'; have H6 := n0_; clear n0_; have H7 := n1_; clear n1_)
              | (go_at_call 8; (with_reducible refine (Add_calls b _ _ HS.out f ((c + 1) % 256) (q + 4) f0 (by omega)).mono ?_); rintro e w' ⟨rfl, h', f'⟩; rw [T3.out]; rw [S3.out] at h'; have n0_ := hid (H6.out.frm f' hn6); have n1_ := hid (H7.out.frm f' hn7); have nf_ := hid (below_frm1 HF.out f' hb); clear HF f' HS H6 H7; have HF := nf_; clear nf_; have HS := hid h'; clear h'; have H6 := n0_; clear n0_; have H7 := n1_; clear n1_)
              | (go_at_call 10; (with_reducible refine (Bound_calls b _ _ HS.out OK.out).mono ?_); rintro e w' ⟨rfl, f'⟩; rw [CN.out, TP.out]; rw [BB.out, BC.out]; have n0_ := hid (HS.out.frm f' (fun h => h)); have n1_ := hid (H6.out.frm f' (fun h => h)); have n2_ := hid (H7.out.frm f' (fun h => h)); have nf_ := hid (below_frm0 HF.out f'); clear HF f' HS H6 H7; have HF := nf_; clear nf_; have HS := n0_; clear n0_; have H6 := n1_; clear n1_; have H7 := n2_; clear n2_)
              | (go_at_call 13; (with_reducible refine (Len_calls b _ _ HS.out).mono ?_); rintro e w' ⟨rfl, f'⟩; rw [CN.out]; have n0_ := hid (HS.out.frm f' (fun h => h)); have n1_ := hid (H6.out.frm f' (fun h => h)); have n2_ := hid (H7.out.frm f' (fun h => h)); have nf_ := hid (below_frm0 HF.out f'); clear HF f' HS H6 H7; have HF := nf_; clear nf_; have HS := n0_; clear n0_; have H6 := n1_; clear n1_; have H7 := n2_; clear n2_))
          go_roundw
          case rel => exact ⟨k + 1, st, by omega, by go_num, by rw [TP.out], by rw [CN.out]; rfl, HS.out, HK.out, H6.out, H7.out, HF.out⟩
          case measure => simp [intOf]; omega
      · have tk' : s.takes f c q = false := by
          rw [tk]
          by_cases e : f = fi
          · simp [e]
          · have : s.at_ f = true := by cases h : s.at_ f with | true => rfl | false => exact absurd ⟨e, h⟩ hv
            simp [this]
        have hv2 : f = fi ∨ ((f != fi) = true ∧ s.at_ f = true) := by
          by_cases e : f = fi
          · exact .inl e
          · exact .inr ⟨bne_iff_ne.2 e, by cases h : s.at_ f with | true => rfl | false => exact absurd ⟨e, h⟩ hv⟩
        clear tk hv
        have S1 : Hid (s.add f c q = s) := by unfold Es.add; rw [if_neg (by rw [tk']; decide)]; exact rfl
        have T1 := hid tk'; clear tk'
        have T2 : Hid True := trivial
        have S2 : Hid True := trivial
        obtain ⟨t3, s3⟩ := asks_no ha b1 f (q + 4)
        have T3 := hid t3; clear t3
        have S3 := hid s3; clear s3
        have HK := hid ha; clear ha
        have OK := hid HK.out.ok
        have CN : Hid (s.cnt 4 = s.cnt 4) := rfl
        have TP : Hid (s.top 4 = s.top 4) := rfl
        have HA : Hid (f = fi ∨ s.at_ f = true) := by rcases hv2 with h | ⟨_, h⟩; exact .inl h; exact .inr h
        clear CN TP HA
        generalize hn : s.cnt 4 = n at *
        generalize hm : s.top 4 = m at *
        have CN := hid hn; clear hn
        have TP := hid hm; clear hm
        by_cases h3 : n < 3
        · have BB : Hid ((if n < 3 then 0 else m + 8) = (0 : Int)) := by rw [if_pos h3]; exact rfl
          have BC : Hid (decide (3 ≤ n) = false) := decide_eq_false (by omega)
          have hn3 : (n == 3) = false := beq_eq_false_iff_ne.2 (by omega)
          rcases hv2 with rfl | ⟨v1b, v2⟩
          · go_wp2_with (first
              | (go_at_call 12; (with_reducible refine (Has_calls b _ _ HS.out f f0).mono ?_); rintro e w' ⟨rfl, rfl⟩; rw [HA.out])
              | (go_at_call 8; (with_reducible refine (Add_calls b _ _ HS.out f c q f0 q0').mono ?_); rintro e w' ⟨rfl, h', f'⟩; rw [T1.out]; rw [S1.out] at h'; have n0_ := hid (H6.out.frm f' hn6); have n1_ := hid (H7.out.frm f' hn7); have nf_ := hid (below_frm1 HF.out f' hb); clear HF f' HS H6 H7; have HF := nf_; clear nf_; have HS := hid h'; clear h'; have H6 := n0_; clear n0_; have H7 := n1_; clear n1_)
              | (go_at_call 8; (with_reducible refine (Add_calls b _ _ HS.out f c q f0 q0').mono ?_); rintro e w' ⟨rfl, h', f'⟩; rw [T2.out]; rw [S2.out] at h'; have n0_ := hid (H6.out.frm f' hn6); have n1_ := hid (H7.out.frm f' hn7); have nf_ := hid (below_frm1 HF.out f' hb); clear HF f' HS H6 H7; have HF := nf_; clear nf_; have HS := hid h'; clear h'; have H6 := n0_; clear n0_; have H7 := n1_; clear n1_)
              | (go_at_call 8; (with_reducible refine (Add_calls b _ _ HS.out f ((c + 1) % 256) (q + 4) f0 (by omega)).mono ?_); rintro e w' ⟨rfl, h', f'⟩; rw [T3.out]; rw [S3.out] at h'; have n0_ := hid (H6.out.frm f' hn6); have n1_ := hid (H7.out.frm f' hn7); have nf_ := hid (below_frm1 HF.out f' hb); clear HF f' HS H6 H7; have HF := nf_; clear nf_; have HS := hid h'; clear h'; have H6 := n0_; clear n0_; have H7 := n1_; clear n1_)
              | (go_at_call 10; (with_reducible refine (Bound_calls b _ _ HS.out OK.out).mono ?_); rintro e w' ⟨rfl, f'⟩; rw [CN.out, TP.out]; rw [BB.out, BC.out]; have n0_ := hid (HS.out.frm f' (fun h => h)); have n1_ := hid (H6.out.frm f' (fun h => h)); have n2_ := hid (H7.out.frm f' (fun h => h)); have nf_ := hid (below_frm0 HF.out f'); clear HF f' HS H6 H7; have HF := nf_; clear nf_; have HS := n0_; clear n0_; have H6 := n1_; clear n1_; have H7 := n2_; clear n2_)
              | (go_at_call 13; (with_reducible refine (Len_calls b _ _ HS.out).mono ?_); rintro e w' ⟨rfl, f'⟩; rw [CN.out]; have n0_ := hid (HS.out.frm f' (fun h => h)); have n1_ := hid (H6.out.frm f' (fun h => h)); have n2_ := hid (H7.out.frm f' (fun h => h)); have nf_ := hid (below_frm0 HF.out f'); clear HF f' HS H6 H7; have HF := nf_; clear nf_; have HS := n0_; clear n0_; have H6 := n1_; clear n1_; have H7 := n2_; clear n2_))
            go_roundw
            case rel => exact ⟨k + 1, s, by omega, by go_num, by rw [TP.out], by rw [CN.out], HS.out, HK.out, H6.out, H7.out, HF.out⟩
            case measure => simp [intOf]; omega
          · have HA := hid v2; clear v2
            go_wp2_with (first
              | (go_at_call 12; (with_reducible refine (Has_calls b _ _ HS.out f f0).mono ?_); rintro e w' ⟨rfl, rfl⟩; rw [HA.out])
              | (go_at_call 8; (with_reducible refine (Add_calls b _ _ HS.out f c q f0 q0').mono ?_); rintro e w' ⟨rfl, h', f'⟩; rw [T1.out]; rw [S1.out] at h'; have n0_ := hid (H6.out.frm f' hn6); have n1_ := hid (H7.out.frm f' hn7); have nf_ := hid (below_frm1 HF.out f' hb); clear HF f' HS H6 H7; have HF := nf_; clear nf_; have HS := hid h'; clear h'; have H6 := n0_; clear n0_; have H7 := n1_; clear n1_)
              | (go_at_call 8; (with_reducible refine (Add_calls b _ _ HS.out f c q f0 q0').mono ?_); rintro e w' ⟨rfl, h', f'⟩; rw [T2.out]; rw [S2.out] at h'; have n0_ := hid (H6.out.frm f' hn6); have n1_ := hid (H7.out.frm f' hn7); have nf_ := hid (below_frm1 HF.out f' hb); clear HF f' HS H6 H7; have HF := nf_; clear nf_; have HS := hid h'; clear h'; have H6 := n0_; clear n0_; have H7 := n1_; clear n1_)
              | (go_at_call 8; (with_reducible refine (Add_calls b _ _ HS.out f ((c + 1) % 256) (q + 4) f0 (by omega)).mono ?_); rintro e w' ⟨rfl, h', f'⟩; rw [T3.out]; rw [S3.out] at h'; have n0_ := hid (H6.out.frm f' hn6); have n1_ := hid (H7.out.frm f' hn7); have nf_ := hid (below_frm1 HF.out f' hb); clear HF f' HS H6 H7; have HF := nf_; clear nf_; have HS := hid h'; clear h'; have H6 := n0_; clear n0_; have H7 := n1_; clear n1_)
              | (go_at_call 10; (with_reducible refine (Bound_calls b _ _ HS.out OK.out).mono ?_); rintro e w' ⟨rfl, f'⟩; rw [CN.out, TP.out]; rw [BB.out, BC.out]; have n0_ := hid (HS.out.frm f' (fun h => h)); have n1_ := hid (H6.out.frm f' (fun h => h)); have n2_ := hid (H7.out.frm f' (fun h => h)); have nf_ := hid (below_frm0 HF.out f'); clear HF f' HS H6 H7; have HF := nf_; clear nf_; have HS := n0_; clear n0_; have H6 := n1_; clear n1_; have H7 := n2_; clear n2_)
              | (go_at_call 13; (with_reducible refine (Len_calls b _ _ HS.out).mono ?_); rintro e w' ⟨rfl, f'⟩; rw [CN.out]; have n0_ := hid (HS.out.frm f' (fun h => h)); have n1_ := hid (H6.out.frm f' (fun h => h)); have n2_ := hid (H7.out.frm f' (fun h => h)); have nf_ := hid (below_frm0 HF.out f'); clear HF f' HS H6 H7; have HF := nf_; clear nf_; have HS := n0_; clear n0_; have H6 := n1_; clear n1_; have H7 := n2_; clear n2_))
            go_roundw
            case rel => exact ⟨k + 1, s, by omega, by go_num, by rw [TP.out], by rw [CN.out], HS.out, HK.out, H6.out, H7.out, HF.out⟩
            case measure => simp [intOf]; omega
        · have hn2 : n = 3 := by omega
          subst hn2
          have BB : Hid ((if (3 : Int) < 3 then 0 else m + 8) = m + 8) := by rw [if_neg (by decide)]; exact rfl
          have BC : Hid (decide ((3 : Int) ≤ 3) = true) := rfl
          rcases hv2 with rfl | ⟨v1b, v2⟩
          · go_wp2_with (first
              | (go_at_call 12; (with_reducible refine (Has_calls b _ _ HS.out f f0).mono ?_); rintro e w' ⟨rfl, rfl⟩; rw [HA.out])
              | (go_at_call 8; (with_reducible refine (Add_calls b _ _ HS.out f c q f0 q0').mono ?_); rintro e w' ⟨rfl, h', f'⟩; rw [T1.out]; rw [S1.out] at h'; have n0_ := hid (H6.out.frm f' hn6); have n1_ := hid (H7.out.frm f' hn7); have nf_ := hid (below_frm1 HF.out f' hb); clear HF f' HS H6 H7; have HF := nf_; clear nf_; have HS := hid h'; clear h'; have H6 := n0_; clear n0_; have H7 := n1_; clear n1_)
              | (go_at_call 8; (with_reducible refine (Add_calls b _ _ HS.out f c q f0 q0').mono ?_); rintro e w' ⟨rfl, h', f'⟩; rw [T2.out]; rw [S2.out] at h'; have n0_ := hid (H6.out.frm f' hn6); have n1_ := hid (H7.out.frm f' hn7); have nf_ := hid (below_frm1 HF.out f' hb); clear HF f' HS H6 H7; have HF := nf_; clear nf_; have HS := hid h'; clear h'; have H6 := n0_; clear n0_; have H7 := n1_; clear n1_)
              | (go_at_call 8; (with_reducible refine (Add_calls b _ _ HS.out f ((c + 1) % 256) (q + 4) f0 (by omega)).mono ?_); rintro e w' ⟨rfl, h', f'⟩; rw [T3.out]; rw [S3.out] at h'; have n0_ := hid (H6.out.frm f' hn6); have n1_ := hid (H7.out.frm f' hn7); have nf_ := hid (below_frm1 HF.out f' hb); clear HF f' HS H6 H7; have HF := nf_; clear nf_; have HS := hid h'; clear h'; have H6 := n0_; clear n0_; have H7 := n1_; clear n1_)
              | (go_at_call 10; (with_reducible refine (Bound_calls b _ _ HS.out OK.out).mono ?_); rintro e w' ⟨rfl, f'⟩; rw [CN.out, TP.out]; rw [BB.out, BC.out]; have n0_ := hid (HS.out.frm f' (fun h => h)); have n1_ := hid (H6.out.frm f' (fun h => h)); have n2_ := hid (H7.out.frm f' (fun h => h)); have nf_ := hid (below_frm0 HF.out f'); clear HF f' HS H6 H7; have HF := nf_; clear nf_; have HS := n0_; clear n0_; have H6 := n1_; clear n1_; have H7 := n2_; clear n2_)
              | (go_at_call 13; (with_reducible refine (Len_calls b _ _ HS.out).mono ?_); rintro e w' ⟨rfl, f'⟩; rw [CN.out]; have n0_ := hid (HS.out.frm f' (fun h => h)); have n1_ := hid (H6.out.frm f' (fun h => h)); have n2_ := hid (H7.out.frm f' (fun h => h)); have nf_ := hid (below_frm0 HF.out f'); clear HF f' HS H6 H7; have HF := nf_; clear nf_; have HS := n0_; clear n0_; have H6 := n1_; clear n1_; have H7 := n2_; clear n2_))
            go_roundw
            case rel => exact ⟨k + 1, s, by omega, by go_num, by rw [TP.out], by rw [CN.out], HS.out, HK.out, H6.out, H7.out, HF.out⟩
            case measure => simp [intOf]; omega
          · have HA := hid v2; clear v2
            go_wp2_with (first
              | (go_at_call 12; (with_reducible refine (Has_calls b _ _ HS.out f f0).mono ?_); rintro e w' ⟨rfl, rfl⟩; rw [HA.out])
              | (go_at_call 8; (with_reducible refine (Add_calls b _ _ HS.out f c q f0 q0').mono ?_); rintro e w' ⟨rfl, h', f'⟩; rw [T1.out]; rw [S1.out] at h'; have n0_ := hid (H6.out.frm f' hn6); have n1_ := hid (H7.out.frm f' hn7); have nf_ := hid (below_frm1 HF.out f' hb); clear HF f' HS H6 H7; have HF := nf_; clear nf_; have HS := hid h'; clear h'; have H6 := n0_; clear n0_; have H7 := n1_; clear n1_)
              | (go_at_call 8; (with_reducible refine (Add_calls b _ _ HS.out f c q f0 q0').mono ?_); rintro e w' ⟨rfl, h', f'⟩; rw [T2.out]; rw [S2.out] at h'; have n0_ := hid (H6.out.frm f' hn6); have n1_ := hid (H7.out.frm f' hn7); have nf_ := hid (below_frm1 HF.out f' hb); clear HF f' HS H6 H7; have HF := nf_; clear nf_; have HS := hid h'; clear h'; have H6 := n0_; clear n0_; have H7 := n1_; clear n1_)
              | (go_at_call 8; (with_reducible refine (Add_calls b _ _ HS.out f ((c + 1) % 256) (q + 4) f0 (by omega)).mono ?_); rintro e w' ⟨rfl, h', f'⟩; rw [T3.out]; rw [S3.out] at h'; have n0_ := hid (H6.out.frm f' hn6); have n1_ := hid (H7.out.frm f' hn7); have nf_ := hid (below_frm1 HF.out f' hb); clear HF f' HS H6 H7; have HF := nf_; clear nf_; have HS := hid h'; clear h'; have H6 := n0_; clear n0_; have H7 := n1_; clear n1_)
              | (go_at_call 10; (with_reducible refine (Bound_calls b _ _ HS.out OK.out).mono ?_); rintro e w' ⟨rfl, f'⟩; rw [CN.out, TP.out]; rw [BB.out, BC.out]; have n0_ := hid (HS.out.frm f' (fun h => h)); have n1_ := hid (H6.out.frm f' (fun h => h)); have n2_ := hid (H7.out.frm f' (fun h => h)); have nf_ := hid (below_frm0 HF.out f'); clear HF f' HS H6 H7; have HF := nf_; clear nf_; have HS := n0_; clear n0_; have H6 := n1_; clear n1_; have H7 := n2_; clear n2_)
              | (go_at_call 13; (with_reducible refine (Len_calls b _ _ HS.out).mono ?_); rintro e w' ⟨rfl, f'⟩; rw [CN.out]; have n0_ := hid (HS.out.frm f' (fun h => h)); have n1_ := hid (H6.out.frm f' (fun h => h)); have n2_ := hid (H7.out.frm f' (fun h => h)); have nf_ := hid (below_frm0 HF.out f'); clear HF f' HS H6 H7; have HF := nf_; clear nf_; have HS := n0_; clear n0_; have H6 := n1_; clear n1_; have H7 := n2_; clear n2_))
            go_roundw
            case rel => exact ⟨k + 1, s, by omega, by go_num, by rw [TP.out], by rw [CN.out], HS.out, HK.out, H6.out, H7.out, HF.out⟩
            case measure => simp [intOf]; omega
    · have hown := hid ha.own
      go_wp2_with (go_at_call 12; (with_reducible refine (Has_calls b _ _ HS.out fi hid4.1).mono ?_); rintro e w' ⟨rfl, rfl⟩; rw [hown.out])
      go_ret
      exact ⟨rfl, HF.out⟩
end Go.Proofs.Ytcdnojmmkkfdnaa
