/- The document's method Page. -/
import Derived.Test.YtljfbaakgjmmfaaRMapB
import Derived.Test.YtljfbaakgjmmfaaHeld
import Derived.Test.YtljfbaakgjmmfaaPutB
import Derived.Test.YtljfbaakgjmmfaaPgDef
namespace Go.Proofs.Ytljfbaakgjmmfaa
open Go.RowKit Go.ChangeShapes
set_option linter.unusedVariables false
set_option linter.unusedSimpArgs false
set_option maxRecDepth 20000
/-- The bytes of the first n keys, as the document goes through them. -/
def rvals (vs : List Int) (p n : Nat) : List Int := (List.range n).flatMap fun k => if k % 7 = p then kbytes vs k else []
theorem rvals_succ (vs : List Int) (p n : Nat) : rvals vs p (n + 1) = rvals vs p n ++ (if n % 7 = p then kbytes vs n else []) := by
  unfold rvals; rw [List.range_succ, List.flatMap_append]; simp
theorem rvals_len (vs : List Int) (p n : Nat) : (rvals vs p n).length ≤ 3 * n := by
  induction n with
  | zero => simp [rvals]
  | succ n ih =>
    rw [rvals_succ, List.length_append]
    have := kbytes_len vs n
    split
    · omega
    · simp; omega
theorem rvals_pvals (vs : List Int) (p : Nat) (hp : p < 7) (n : Nat) : rvals vs p n = pvals vs p ((n - p + 6) / 7) := by
  induction n with
  | zero => rw [show (0 - p + 6) / 7 = 0 by omega]; rfl
  | succ n ih =>
    rw [rvals_succ, ih]
    by_cases h : n % 7 = p
    · rw [if_pos h, show (n + 1 - p + 6) / 7 = (n - p + 6) / 7 + 1 by omega, pvals_succ, show p + 7 * ((n - p + 6) / 7) = n by omega]
    · rw [if_neg h, List.append_nil, show (n + 1 - p + 6) / 7 = (n - p + 6) / 7 by omega]
/-- The bytes of the clients 1 .. n. -/
def rclis (cs : List Int) (n : Nat) : List Int := (List.range n).flatMap fun i => cbytes cs (i + 1)
theorem rclis_succ (cs : List Int) (n : Nat) : rclis cs (n + 1) = rclis cs n ++ cbytes cs (n + 1) := by
  unfold rclis; rw [List.range_succ, List.flatMap_append]; simp
theorem rclis_len (cs : List Int) (n : Nat) : (rclis cs n).length ≤ 9 * n := by
  induction n with
  | zero => simp [rclis]
  | succ n ih => rw [rclis_succ, List.length_append]; have := cbytes_len cs (n + 1); omega
theorem rclis_pclis (cs : List Int) (h : cs.getD 0 0 = 0) (n : Nat) : rclis cs n = pclis cs (n + 1) := by
  induction n with
  | zero =>
    rw [pclis_succ, cbytes, if_pos h, List.append_nil]
    rfl
  | succ n ih => rw [rclis_succ, ih, ← pclis_succ]
theorem be_one (k : Nat) (h : k < 256) : be (k : Int) 1 = [(k : Int)] := by
  simp [be]; omega
theorem one_bits (w : World) (k : Nat) (h : k < 256) : IsInts .u8 (w.alloc (.cells #[.int .u8 (k : Int)] 5)) (some ⟨w.heap.size, 0, none⟩) 1 (be (k : Int) 1) := by
  rw [be_one k h]
  exact one_ints w k _ (by simp [Lit.wf, IntKind.min, IntKind.max, IntKind.bits, IntKind.signed]; omega)
set_option maxHeartbeats 8000000 in
theorem RPage_vals {w : World} {b : Nat} {vs cs : List Int} (h : IsRM w b vs cs) (p : Nat) (hp : p < 7) :
    Calls Try.prog 19 #[.pointer (some ⟨b, 0, none⟩), .int .i64 p] w fun e w' => ∃ v, e = .returned v ∧ OwnB w' (fun k => k < w.heap.size) v (pageB vs cs p) ∧ Below w.heap.size w w' := by
  have hmw := hid h.blk.lt
  have HM0 := hid h; clear h
  have hp0 : (0 : Int) ≤ (p : Int) := by omega
  have hp7 : (p : Int) < 7 := by omega
  have qp : ((p : Int) == 7) = false := beq_eq_false_iff_ne.2 (by omega)
  have HP7 := hid hp
  clear hp
  go_enter Try.func19, Try.ntmps19
  go_wp2
  go_loopw [5, 6] (fun lv kv wr => ∃ K : Nat, K ≤ 64 ∧ kv = .int .i64 (K : Int) ∧ OwnB wr (fun k => k < w.heap.size) lv (rvals vs p K) ∧ IsRM wr b vs cs ∧ Below w.heap.size w wr) (fun _ kv _ => 64 - (intOf kv).toNat)
  case atStart => exact ⟨0, by omega, rfl, OwnB.nil _ _, HM0.out, Below.refl _ _⟩
  case round =>
    clear HM0
    obtain ⟨K, hk, rfl, ho, hM, hf⟩ := hrel
    have HO := hid ho; have HM := hid hM; have HF := hid hf
    clear ho hM hf
    by_cases hlt : K < 64
    · have hk64 : (K : Int) < 64 := by omega
      have HK64 := hid hlt
      have h256 := hid (show K < 256 by omega)
      have e8 : IntKind.u8.wrap (K : Int) = (K : Int) := by rw [wrap_u8]; omega
      obtain ⟨r, hr⟩ : ∃ r, K % 7 = r := ⟨_, rfl⟩
      have e7 : (K : Int).tmod 7 = (r : Int) := by rw [Int.tmod_eq_emod_of_nonneg (by omega)]; omega
      have HS := hid (rvals_succ vs p K)
      have HLW := hid (show (rvals vs p K).length + 1 ≤ 140737488355328 by have := rvals_len vs p K; omega)
      obtain ⟨v, hv⟩ : ∃ v, vs.getD K 0 = v := ⟨_, rfl⟩
      have hvb := getD_bd HM.out.bv (by decide) K
      rw [hv] at hvb
      have HV := hid hv
      have q0 := HM.out.val K hlt
      rw [hv] at q0
      have hAw := hid (show ∀ o k, k < w.heap.size → k < (wr.drew.alloc o).heap.size from fun o k hk => by have := HF.out.size; simp; omega)
      have e64 : IntKind.u64.wrap v = v := by simp [IntKind.wrap, IntKind.bits, IntKind.signed]; omega
      by_cases hrp : r = p
      · subst hrp
        have qr : ((r : Int) == (r : Int)) = true := beq_self_eq_true _
        by_cases hv0 : v = 0
        · subst hv0
          have HKB := hid (show rvals vs r (K + 1) = rvals vs r K by rw [HS.out, if_pos hr, kbytes, if_pos hv, List.append_nil])
          clear hr hv hk hlt HS
          go_wp2
          go_roundw
          case rel => exact ⟨K + 1, by have := HK64.out; omega, by go_num, by rw [HKB.out]; exact HO.out, HM.out, HF.out⟩
          case measure => simp [intOf]; have := HK64.out; omega
        · have qv : (v == 0) = false := beq_eq_false_iff_ne.2 hv0
          have qv2 : (v != 0) = true := bne_iff_ne.2 hv0
          have HKB := hid (show rvals vs r (K + 1) = (rvals vs r K ++ be (K : Int) 1) ++ be v 2 by rw [HS.out, if_pos hr, kbytes, if_neg (by rw [hv]; exact hv0), hv, List.append_assoc])
          have HLP := hid (show (rvals vs r K ++ be (K : Int) 1).length + 8 ≤ 140737488355328 by have := rvals_len vs r K; rw [List.length_append, be_len]; omega)
          have hv1 := hvb.1
          have hv2 : v < 18446744073709551616 := by omega
          have hl1 : b < wr.heap.size := HM.out.blk.lt
          have HVB := hid hvb
          clear hr hv hk hlt HS hvb hv0
          go_wp2_with (fail)
          go_region_held3 (fun wx => wx.cell? ⟨b, K, none⟩ = some (.int .u16 v)) (first | go_keep | exact q0) (first
            | (refine step_more rfl _ _ rfl rfl (HO.out.frm0 ((Frm.refl _ _).drew.alloc _)) (hAw.out _) (one_bits wr.drew K h256.out) (be_len _ _) HLW.out rfl rfl ?_; intro a' l' c' wq ho' hf' hat'; clear q0; have nF := hid ((bdrew (HF.out)).alloc (show w.heap.size ≤ wr.drew.heap.size from HF.out.size) _ |>.trans (hf'.below (by have := HF.out.size; simp; omega) (fun k hk hn => HO.out.off k hn hk))); have nM := hid ((HM.out.drew.frm (frm_box wr.drew _) (fun h => h)).frm hf' (fun e => HO.out.off _ e hmw.out)); have nO := hid ho'; clear HF HM HO ho' hf' hat'; have HF := nF; have HM := nM; have HO := nO; clear nF nM nO; have q0 := HM.out.val K HK64.out; (rw [HV.out] at q0))
            | (go_at_call 32; (with_reducible refine (Put_calls HO.out (fun k hk => Nat.lt_of_lt_of_le hk HF.out.size) v hv1 hv2 2 2 rfl (by decide) HLP.out).mono ?_); rintro e w9 ⟨v9, rfl, h', f'⟩; clear q0; have nF := hid (HF.out.trans (f'.below HF.out.size (fun k hk hn => hn hk))); have nM := hid (HM.out.frm f' (fun h => h hmw.out)); clear HF HM HO f'; have HF := nF; have HM := nM; have HO := hid h'; clear nF nM h'; have q0 := HM.out.val K HK64.out; (rw [HV.out] at q0)))
          go_wp2
          go_roundw
          case rel => exact ⟨K + 1, by have := HK64.out; omega, by go_num, by rw [HKB.out]; exact HO.out, HM.out, HF.out⟩
          case measure => simp [intOf]; have := HK64.out; omega
      · have qr : ((r : Int) == (p : Int)) = false := beq_eq_false_iff_ne.2 (by omega)
        have HKB := hid (show rvals vs p (K + 1) = rvals vs p K by rw [HS.out, if_neg (by rw [hr]; exact hrp), List.append_nil])
        clear hr hv hk hlt HS hrp
        go_wp2
        go_roundw
        case rel => exact ⟨K + 1, by have := HK64.out; omega, by go_num, by rw [HKB.out]; exact HO.out, HM.out, HF.out⟩
        case measure => simp [intOf]; have := HK64.out; omega
    · have hk64 : (64 : Int) ≤ (K : Int) := by omega
      obtain rfl : K = 64 := by omega
      have HEQ := hid (show rvals vs p 64 = pageB vs cs p by rw [rvals_pvals vs p HP7.out, pageB, if_neg (by have := HP7.out; omega)]; rfl)
      rw [HEQ.out] at HO
      clear hlt HEQ
      go_wp2
      go_loopw [5, 7] (fun lv cv wr => OwnB wr (fun k => k < w.heap.size) lv (pageB vs cs p) ∧ cv = .int .i64 1 ∧ Below w.heap.size w wr) (fun _ _ _ => 0)
      case atStart => exact ⟨HO.out, rfl, HF.out⟩
      case round =>
        clear HO HF
        obtain ⟨ho, rfl, hf⟩ := hrel
        have HO := hid ho; have HF := hid hf
        clear ho hf
        go_wp2
        go_ret
        exact ⟨_, rfl, HO.out, HF.out⟩
set_option maxHeartbeats 8000000 in
theorem RPage_clis {w : World} {b : Nat} {vs cs : List Int} (h : IsRM w b vs cs) (h00 : cs.getD 0 0 = 0) (P : Int) (hP : P = 7) :
    Calls Try.prog 19 #[.pointer (some ⟨b, 0, none⟩), .int .i64 P] w fun e w' => ∃ v, e = .returned v ∧ OwnB w' (fun k => k < w.heap.size) v (pageB vs cs 7) ∧ Below w.heap.size w w' := by
  subst hP
  have hmw := hid h.blk.lt
  have HM0 := hid h; clear h
  have H00 := hid h00; clear h00
  go_enter Try.func19, Try.ntmps19
  go_wp2
  go_loopw [5, 6] (fun lv kv wr => OwnB wr (fun k => k < w.heap.size) lv [] ∧ kv = .int .i64 0 ∧ IsRM wr b vs cs ∧ Below w.heap.size w wr) (fun _ _ _ => 0)
  case atStart => exact ⟨OwnB.nil _ _, rfl, HM0.out, Below.refl _ _⟩
  case round =>
    clear HM0
    obtain ⟨ho, rfl, hM, hf⟩ := hrel
    have HO := hid ho; have HM := hid hM; have HF := hid hf
    clear ho hM hf
    go_wp2
    go_loopw [5, 7] (fun lv kv wr => ∃ j : Nat, j ≤ 4 ∧ kv = .int .i64 ((j : Int) + 1) ∧ OwnB wr (fun k => k < w.heap.size) lv (rclis cs j) ∧ IsRM wr b vs cs ∧ Below w.heap.size w wr) (fun _ kv _ => 5 - (intOf kv).toNat)
    case atStart => exact ⟨0, by omega, by go_num, by first | exact HO.out | (rw [show rclis cs 0 = [] from rfl]; exact HO.out), HM.out, HF.out⟩
    case round =>
      clear HM HO HF
      obtain ⟨j, hj, rfl, ho, hM, hf⟩ := hrel
      have HO := hid ho; have HM := hid hM; have HF := hid hf
      clear ho hM hf
      by_cases hlt : j < 4
      · have hk4 : (j : Int) + 1 ≤ 4 := by omega
        have hk5 : (j : Int) + 1 < 5 := by omega
        have hk0 : (0 : Int) ≤ (j : Int) + 1 := by omega
        have hkn : ((j : Int) + 1).toNat = j + 1 := by omega
        have HJ5 := hid (show j + 1 < 5 by omega)
        have h256 := hid (show j + 1 < 256 by omega)
        have e8 : IntKind.u8.wrap ((j : Int) + 1) = (j : Int) + 1 := by rw [wrap_u8]; omega
        have HS := hid (rclis_succ cs j)
        have HLW := hid (show (rclis cs j).length + 1 ≤ 140737488355328 by have := rclis_len cs j; omega)
        obtain ⟨t, ht⟩ : ∃ t, cs.getD ((j + 1) * 2) 0 = t := ⟨_, rfl⟩
        obtain ⟨r, hr⟩ : ∃ r, cs.getD ((j + 1) * 2 + 1) 0 = r := ⟨_, rfl⟩
        have htb := getD_bd HM.out.bc (by decide) ((j + 1) * 2)
        have hrb := getD_bd HM.out.bc (by decide) ((j + 1) * 2 + 1)
        rw [ht] at htb
        rw [hr] at hrb
        have HT := hid ht; have HR := hid hr
        have q0 := HM.out.tm (j + 1) HJ5.out
        rw [ht] at q0
        have q1 := HM.out.rs (j + 1) HJ5.out
        rw [hr] at q1
        have hAw := hid (show ∀ o k, k < w.heap.size → k < (wr.drew.alloc o).heap.size from fun o k hk => by have := HF.out.size; simp; omega)
        have e64 : IntKind.u64.wrap t = t := by simp [IntKind.wrap, IntKind.bits, IntKind.signed]; omega
        have e65 : IntKind.u64.wrap r = r := by simp [IntKind.wrap, IntKind.bits, IntKind.signed]; omega
        by_cases ht0 : t = 0
        · subst ht0
          have HKB := hid (show rclis cs (j + 1) = rclis cs j by rw [HS.out, cbytes, if_pos ht, List.append_nil])
          clear ht hr hj hlt HS
          go_wp2
          go_roundw
          case rel => exact ⟨j + 1, by have := HJ5.out; omega, by go_num, by rw [HKB.out]; exact HO.out, HM.out, HF.out⟩
          case measure => simp [intOf]; have := HJ5.out; omega
        · have qv : (t == 0) = false := beq_eq_false_iff_ne.2 ht0
          have qv2 : (t != 0) = true := bne_iff_ne.2 ht0
          have HKB := hid (show rclis cs (j + 1) = ((rclis cs j ++ be ((j + 1 : Nat) : Int) 1) ++ be t 4) ++ be r 4 by rw [HS.out, cbytes, if_neg (by rw [ht]; exact ht0), ht, hr]; simp only [List.append_assoc])
          have HLP := hid (show (rclis cs j ++ be ((j + 1 : Nat) : Int) 1).length + 8 ≤ 140737488355328 by have := rclis_len cs j; rw [List.length_append, be_len]; omega)
          have HLP2 := hid (show ((rclis cs j ++ be ((j + 1 : Nat) : Int) 1) ++ be t 4).length + 8 ≤ 140737488355328 by have := rclis_len cs j; rw [List.length_append, List.length_append, be_len, be_len]; omega)
          have ht1 := htb.1
          have ht2 : t < 18446744073709551616 := by omega
          have hr1 := hrb.1
          have hr2 : r < 18446744073709551616 := by omega
          have hl1 : b < wr.heap.size := HM.out.blk.lt
          clear ht hr hj hlt HS htb hrb ht0
          go_wp2_with (fail)
          go_region_held3 (fun wx => wx.cell? ⟨b, 64 + (j + 1), none⟩ = some (.int .u32 t) ∧ wx.cell? ⟨b, 69 + (j + 1), none⟩ = some (.int .u32 r)) (first | go_keep | exact ⟨q0, q1⟩) (first
            | (refine step_more rfl _ _ rfl rfl (HO.out.frm0 ((Frm.refl _ _).drew.alloc _)) (hAw.out _) (one_bits wr.drew (j + 1) h256.out) (be_len _ _) HLW.out rfl rfl ?_; intro a' l' c' wq ho' hf' hat'; clear q0 q1; have nF := hid ((bdrew (HF.out)).alloc (show w.heap.size ≤ wr.drew.heap.size from HF.out.size) _ |>.trans (hf'.below (by have := HF.out.size; simp; omega) (fun k hk hn => HO.out.off k hn hk))); have nM := hid ((HM.out.drew.frm (frm_box wr.drew _) (fun h => h)).frm hf' (fun e => HO.out.off _ e hmw.out)); have nO := hid ho'; clear HF HM HO ho' hf' hat'; have HF := nF; have HM := nM; have HO := nO; clear nF nM nO; have q0 := HM.out.tm (j + 1) HJ5.out; (rw [HT.out] at q0); have q1 := HM.out.rs (j + 1) HJ5.out; (rw [HR.out] at q1))
            | (go_at_call 32; (with_reducible refine (Put_calls HO.out (fun k hk => Nat.lt_of_lt_of_le hk HF.out.size) t ht1 ht2 4 4 rfl (by decide) HLP.out).mono ?_); rintro e w9 ⟨v9, rfl, h', f'⟩; clear q0 q1; have nF := hid (HF.out.trans (f'.below HF.out.size (fun k hk hn => hn hk))); have nM := hid (HM.out.frm f' (fun h => h hmw.out)); clear HF HM HO f'; have HF := nF; have HM := nM; have HO := hid h'; clear nF nM h'; have q0 := HM.out.tm (j + 1) HJ5.out; (rw [HT.out] at q0); have q1 := HM.out.rs (j + 1) HJ5.out; (rw [HR.out] at q1))
            | (go_at_call 32; (with_reducible refine (Put_calls HO.out (fun k hk => Nat.lt_of_lt_of_le hk HF.out.size) r hr1 hr2 4 4 rfl (by decide) HLP2.out).mono ?_); rintro e w9 ⟨v9, rfl, h', f'⟩; clear q0 q1; have nF := hid (HF.out.trans (f'.below HF.out.size (fun k hk hn => hn hk))); have nM := hid (HM.out.frm f' (fun h => h hmw.out)); clear HF HM HO f'; have HF := nF; have HM := nM; have HO := hid h'; clear nF nM h'; have q0 := HM.out.tm (j + 1) HJ5.out; (rw [HT.out] at q0); have q1 := HM.out.rs (j + 1) HJ5.out; (rw [HR.out] at q1)))
          go_wp2
          go_roundw
          case rel => exact ⟨j + 1, by have := HJ5.out; omega, by go_num, by rw [HKB.out]; exact HO.out, HM.out, HF.out⟩
          case measure => simp [intOf]; have := HJ5.out; omega
      · obtain rfl : j = 4 := by omega
        have HEQ := hid (show rclis cs 4 = pageB vs cs 7 by rw [rclis_pclis cs H00.out, pageB, if_pos rfl])
        rw [HEQ.out] at HO
        have hk4 : (4 : Int) < ((4 : Nat) : Int) + 1 := by decide
        clear hlt HEQ
        go_wp2
        go_ret
        exact ⟨_, rfl, HO.out, HF.out⟩
theorem RPage_none {w : World} {b : Nat} {vs cs : List Int} (h : IsRM w b vs cs) (P : Int) (hP : P < 0 ∨ 7 < P) :
    Calls Try.prog 19 #[.pointer (some ⟨b, 0, none⟩), .int .i64 P] w fun e w' => ∃ v, e = .returned v ∧ OwnB w' (fun k => k < w.heap.size) v ([]) ∧ Below w.heap.size w w' := by
  have HM0 := hid h; clear h
  have q7 : (P == 7) = false := beq_eq_false_iff_ne.2 (by omega)
  rcases hP with hP | hP
  · have hP1 : ¬ 0 ≤ P := by omega
    go_enter Try.func19, Try.ntmps19
    go_wp2
    go_loopw [5, 6] (fun lv kv wr => OwnB wr (fun k => k < w.heap.size) lv [] ∧ kv = .int .i64 0 ∧ IsRM wr b vs cs ∧ Below w.heap.size w wr) (fun _ _ _ => 0)
    case atStart => exact ⟨OwnB.nil _ _, rfl, HM0.out, Below.refl _ _⟩
    case round =>
      clear HM0
      obtain ⟨ho, rfl, hM, hf⟩ := hrel
      have HO := hid ho; have HM := hid hM; have HF := hid hf
      clear ho hM hf
      go_wp2
      go_wp2
      go_loopw [5, 7] (fun lv cv wr => OwnB wr (fun k => k < w.heap.size) lv ([]) ∧ cv = .int .i64 1 ∧ Below w.heap.size w wr) (fun _ _ _ => 0)
      case atStart => exact ⟨HO.out, rfl, HF.out⟩
      case round =>
        clear HO HF
        obtain ⟨ho, rfl, hf⟩ := hrel
        have HO := hid ho; have HF := hid hf
        clear ho hf
        go_wp2
        go_ret
        exact ⟨_, rfl, HO.out, HF.out⟩
  · have hP1 : ¬ P < 7 := by omega
    go_enter Try.func19, Try.ntmps19
    go_wp2
    go_loopw [5, 6] (fun lv kv wr => OwnB wr (fun k => k < w.heap.size) lv [] ∧ kv = .int .i64 0 ∧ IsRM wr b vs cs ∧ Below w.heap.size w wr) (fun _ _ _ => 0)
    case atStart => exact ⟨OwnB.nil _ _, rfl, HM0.out, Below.refl _ _⟩
    case round =>
      clear HM0
      obtain ⟨ho, rfl, hM, hf⟩ := hrel
      have HO := hid ho; have HM := hid hM; have HF := hid hf
      clear ho hM hf
      go_wp2
      go_wp2
      go_loopw [5, 7] (fun lv cv wr => OwnB wr (fun k => k < w.heap.size) lv ([]) ∧ cv = .int .i64 1 ∧ Below w.heap.size w wr) (fun _ _ _ => 0)
      case atStart => exact ⟨HO.out, rfl, HF.out⟩
      case round =>
        clear HO HF
        obtain ⟨ho, rfl, hf⟩ := hrel
        have HO := hid ho; have HF := hid hf
        clear ho hf
        go_wp2
        go_ret
        exact ⟨_, rfl, HO.out, HF.out⟩
end Go.Proofs.Ytljfbaakgjmmfaa
