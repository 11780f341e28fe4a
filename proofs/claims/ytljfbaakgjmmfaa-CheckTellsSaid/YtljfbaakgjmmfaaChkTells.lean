/- CheckTells, walked. -/
import Derived.Test.YtljfbaakgjmmfaaChkArg
import Derived.Test.YtljfbaakgjmmfaaChkPartsL
namespace Go.Proofs.Ytljfbaakgjmmfaa
open Go.RowKit Go.ChangeShapes
set_option linter.unusedVariables false
set_option linter.unusedSimpArgs false
set_option maxRecDepth 100000
theorem List_t {w : World} {a : Option Addr} {c N : Nat} {ls : List (List Dn)} (h : IsDss w a c ls) (hN : ls.length = N) (hok : ∀ l ∈ ls, ∀ d ∈ l, DnOk d) (hlen : ∀ l ∈ ls, l.length ≤ 60) (hls : N ≤ 6) (z : Option (List Rq)) (hz : totF (fun _ => none) 0 0 ls = z) (ok : ∀ r ∈ resX z, RqOk r) (n : Nat) (hn : (resX z).length = n) :
    Calls Try.prog 9 #[.slice a N c] w fun e w' => ∃ a' c', e = .returned (.tuple #[.slice a' n c', .int .i64 (resE z)]) ∧ IsRqs w' a' c' (resX z) ∧ Below w.heap.size w w' := by
  subst hN hn
  refine (List_calls h hok hlen hls z hz).mono ?_
  rintro e w' ⟨hr, f⟩
  obtain ⟨a', c', rfl, hq⟩ := hr.tells ok
  exact ⟨a', c', rfl, hq, f⟩
theorem RList_t {w : World} {a : Option Addr} {c N : Nat} {ls : List (List Dn)} (h : IsDss w a c ls) (hN : ls.length = N) (hok : ∀ l ∈ ls, ∀ d ∈ l, DnOk d) (hlen : ∀ l ∈ ls, l.length ≤ 60) (hls : N ≤ 6) (z : Option (List Rq)) (hz : totF (fun _ => none) 0 0 ls = z) (ok : ∀ r ∈ resX z, RqOk r) (n : Nat) (hn : (resX z).length = n) :
    Calls Try.prog 16 #[.slice a N c] w fun e w' => ∃ a' c', e = .returned (.tuple #[.slice a' n c', .int .i64 (resE z)]) ∧ IsRqs w' a' c' (resX z) ∧ Below w.heap.size w w' := by
  subst hn
  refine (RList_calls h hN hok hlen hls z hz).mono ?_
  rintro e w' ⟨hr, f⟩
  obtain ⟨a', c', rfl, hq⟩ := hr.tells ok
  exact ⟨a', c', rfl, hq, f⟩
theorem At_t {w : World} {a : Option Addr} {ca n : Nat} {l : List Rq} (h : IsRqs w a ca l) (hN : l.length = n) (hlen : n ≤ 2000) (m : Nat) (hm : (m : Int) ≤ 4294967295) (vs' cs' : List Int) (hz : playM V0 C0 (l.take m) = (vs', cs')) :
    Calls Try.prog 12 #[.slice a n ca, .int .u32 (m : Int)] w fun e w' => ∃ mb, e = .returned (.pointer (some ⟨mb, 0, none⟩)) ∧ IsMap w' mb vs' cs' ∧ Below w.heap.size w w' := by
  subst hN
  refine (At_calls h hlen m hm vs' cs' hz).mono ?_
  rintro e w' ⟨mb, rfl, _, h1, f⟩
  exact ⟨mb, rfl, h1, f⟩
theorem Reqs_t {w : World} {a b : Option Addr} {ca cb M : Nat} {l : List Rq} (h : IsRqs w a ca l) (h' : IsRqs w b cb l) (hM : l.length = M) :
    Calls Try.prog 10 #[.slice a M ca, .slice b M cb] w fun e w' => e = .returned (.bool true) ∧ Frm (fun _ => False) w w' := Reqs_same h h' hM
theorem Right_t {w : World} {a b : Option Addr} {ca cb N A : Nat} {l : List Rq} {an : List (Rq × Int)} (h : IsRqs w a ca l) (hN : l.length = N) (h' : IsAns w b cb an) (hA : an.length = A) (z : Bool) (hz : rightsF l an = z) :
    Calls Try.prog 11 #[.slice a N ca, .slice b A cb] w fun e w' => e = .returned (.bool z) ∧ Below w.heap.size w w' := by
  subst hN hA
  exact Rights_calls h h' z hz
theorem Once_t {w : World} {a : Option Addr} {ca N : Nat} {l : List Rq} (h : IsRqs w a ca l) (hN : l.length = N) (hlen : N ≤ 2000) : Calls Try.prog 14 #[.slice a N ca] w fun e w' => e = .returned (.bool true) ∧ Below w.heap.size w w' := by
  subst hN
  exact Once_calls h hlen
set_option maxHeartbeats 32000000 in
theorem CheckTells_core (a0 : Option Addr) (c0 N : Nat) (ls : List (List Dn)) (a1 : Option Addr) (c1 R : Nat) (rs : List Rq) (a2 : Option Addr) (c2 A : Nat) (an : List (Rq × Int)) (last : Int) (w : World) (h0 : IsDss w a0 c0 ls) (hN : ls.length = N) (hd : ∀ l ∈ ls, ∀ d ∈ l, 0 ≤ d.s ∧ RqOk d.r) (h1 : IsRqs w a1 c1 rs) (hR : rs.length = R) (h2 : IsAns w a2 c2 an) (hA : an.length = A) (hla : 0 ≤ last ∧ last ≤ 4294967295) :
    Calls Try.prog 6 #[.slice a0 N c0, .slice a1 R c1, .slice a2 A c2, .int .u32 last] w fun e w' => e = .returned (.bool true) ∧ Below w.heap.size w w' := by
  have hle1 := h1.le
  have hsm1 := h1.small
  have hle2 := h2.le
  have hsm2 := h2.small
  rw [hR] at hle1
  rw [hA] at hle2
  have H0 := hid h0; have HN := hid hN; have H1 := hid h1; have HR := hid hR; have H2 := hid h2; have HA := hid hA; have HD := hid hd
  clear h0 h1 h2 hN hR hA hd
  obtain ⟨fw, hfw⟩ : ∃ fw, fewF ls = fw := ⟨_, rfl⟩
  have HFW := hid hfw
  cases fw with
  | false =>
    clear hfw
    go_enter Try.func6, Try.ntmps6
    go_wp2_with (first
      | (go_at_call 7; (with_reducible refine (known_calls w).mono ?_); rintro e w1 ⟨rfl, f'⟩; have HF := hid f'; clear f')
      | (go_at_call 15; (with_reducible refine (few_calls (H0.out.bel HF.out) HN.out false HFW.out).mono ?_); rintro e w2 ⟨rfl, rfl⟩; skip))
    go_ret
    exact ⟨rfl, HF.out⟩
  | true =>
    by_cases hR60 : R > 60
    · have hRi : (60 : Int) < (R : Int) := by omega
      clear hfw hR60
      go_enter Try.func6, Try.ntmps6
      go_wp2_with (first
        | (go_at_call 7; (with_reducible refine (known_calls w).mono ?_); rintro e w1 ⟨rfl, f'⟩; have HF := hid f'; clear f')
        | (go_at_call 15; (with_reducible refine (few_calls (H0.out.bel HF.out) HN.out true HFW.out).mono ?_); rintro e w2 ⟨rfl, rfl⟩; skip))
      go_ret
      exact ⟨rfl, HF.out⟩
    by_cases hA20 : A > 20
    · have hRi : ¬ (60 : Int) < (R : Int) := by omega
      have hAi : (20 : Int) < (A : Int) := by omega
      clear hfw hA20 hR60
      go_enter Try.func6, Try.ntmps6
      go_wp2_with (first
        | (go_at_call 7; (with_reducible refine (known_calls w).mono ?_); rintro e w1 ⟨rfl, f'⟩; have HF := hid f'; clear f')
        | (go_at_call 15; (with_reducible refine (few_calls (H0.out.bel HF.out) HN.out true HFW.out).mono ?_); rintro e w2 ⟨rfl, rfl⟩; skip))
      go_ret
      exact ⟨rfl, HF.out⟩
    have hRi : ¬ (60 : Int) < (R : Int) := by omega
    have hAi : ¬ (20 : Int) < (A : Int) := by omega
    have HR2 := hid (show R ≤ 2000 by omega)
    obtain ⟨hq, h6⟩ : fewQ ls = true ∧ ls.length ≤ 6 := by
      rw [fewF, Bool.and_eq_true] at hfw
      exact ⟨hfw.1, of_decide_eq_true hfw.2⟩
    have hall : ∀ l ∈ ls, l.length ≤ 60 ∧ fewL l = true := fun l hl => by
      have := List.all_eq_true.1 hq l hl
      rw [Bool.and_eq_true] at this
      exact ⟨of_decide_eq_true this.1, this.2⟩
    have HN6 := hid (show N ≤ 6 by rw [← HN.out]; exact h6)
    have HD60 := hid (show ∀ l ∈ ls, l.length ≤ 60 from fun l hl => (hall l hl).1)
    have HDO := hid (show ∀ l ∈ ls, ∀ d ∈ l, DnOk d from fun l hl d hd => ⟨⟨(HD.out l hl d hd).1, of_decide_eq_true (List.all_eq_true.1 (hall l hl).2 d hd)⟩, (HD.out l hl d hd).2⟩)
    obtain ⟨z, hz⟩ : ∃ z, totF (fun _ => none) 0 0 ls = z := ⟨_, rfl⟩
    have HZ := hid hz
    have HOKR := hid (show ∀ r ∈ resX z, RqOk r from by
      cases z with
      | none => intro r hr; cases hr
      | some out => exact tot_okR ls _ _ _ out hz (fun i r h => by cases h) (fun l hl d hd => (HD.out l hl d hd).2))
    obtain ⟨n, hn⟩ : ∃ n, (resX z).length = n := ⟨_, rfl⟩
    have HXN := hid hn
    obtain ⟨m, rfl⟩ := Int.eq_ofNat_of_zero_le hla.1
    have HM := hid hla.2
    obtain ⟨vs, cs, hpl⟩ : ∃ vs cs, playM V0 C0 (rs.take m) = (vs, cs) := ⟨_, _, rfl⟩
    have HPL := hid hpl
    have H00 := hid (show cs.getD 0 0 = 0 by have h := play_0 (rs.take m) V0 C0 (by decide); rw [hpl] at h; exact h)
    obtain ⟨zr, hzr⟩ : ∃ zr, rightsF rs an = zr := ⟨_, rfl⟩
    have HZR := hid hzr
    obtain ⟨ev, hev⟩ : ∃ ev, resE z = ev := ⟨_, rfl⟩
    have HEV := hid hev
    clear hfw hR60 hA20 hq h6 hall hz hn hla hpl hzr hev
    go_enter Try.func6, Try.ntmps6
    go_wp2_with (first
      | (go_at_call 7; (with_reducible refine (known_calls w).mono ?_); rintro e w1 ⟨rfl, f'⟩; have HF := hid f'; clear f')
      | (go_at_call 15; (with_reducible refine (few_calls (H0.out.bel HF.out) HN.out true HFW.out).mono ?_); rintro e w2 ⟨rfl, rfl⟩; skip)
      | (go_at_call 9; (with_reducible refine (List_t (H0.out.bel HF.out) HN.out HDO.out HD60.out HN6.out z HZ.out HOKR.out n HXN.out).mono ?_); rintro e w3 ⟨xa, xc, rfl, hq, f'⟩; have HX := hid hq; have n0_ := hid (below_next HF.out f'); clear HF; have HF := n0_; clear n0_; clear f' hq)
      | (go_at_call 16; (with_reducible refine (RList_t (H0.out.bel HF.out) HN.out HDO.out HD60.out HN6.out z HZ.out HOKR.out n HXN.out).mono ?_); rintro e w4 ⟨ya, yc, rfl, hq, f'⟩; have HY := hid hq; have n0_ := hid (HX.out.b0 f'); have n1_ := hid (below_next HF.out f'); clear HX HF; have HX := n0_; clear n0_; have HF := n1_; clear n1_; clear f' hq)
      | (go_at_call 12; (with_reducible refine (At_t (H1.out.b0 HF.out) HR.out HR2.out m HM.out vs cs HPL.out).mono ?_); rintro e w5 ⟨mb, rfl, hm, f'⟩; have HMP := hid hm; have n0_ := hid (HX.out.b0 f'); have n1_ := hid (HY.out.b0 f'); have n2_ := hid (below_next HF.out f'); clear HX HY HF; have HX := n0_; clear n0_; have HY := n1_; clear n1_; have HF := n2_; clear n2_; clear f' hm)
      | (go_at_call 17; (with_reducible refine (RAt_calls (H1.out.b0 HF.out) HR.out HR2.out m (m : Int) rfl vs cs HPL.out).mono ?_); rintro e w6 ⟨rb, rfl, hr, hb', f'⟩; have HRP := hid hr; have n0_ := hid (HMP.out.frm (frm0_of f') (fun h => h)); have n1_ := hid (HX.out.b0 f'); have n2_ := hid (HY.out.b0 f'); have n3_ := hid (below_next HF.out f'); clear HMP HX HY HF; have HMP := n0_; clear n0_; have HX := n1_; clear n1_; have HY := n2_; clear n2_; have HF := n3_; clear n3_; clear f' hr hb'))
    go_loopw [15] (fun pv wr => ∃ p : Nat, p ≤ 8 ∧ pv = .int .i64 p ∧ IsMap wr mb vs cs ∧ IsRM wr rb vs cs ∧ IsRqs wr xa xc (resX z) ∧ IsRqs wr ya yc (resX z) ∧ Below w.heap.size w wr) (fun pv _ => 8 - (intOf pv).toNat)
    case atStart => exact ⟨0, by omega, rfl, HMP.out, HRP.out, HX.out, HY.out, HF.out⟩
    case round =>
      clear HMP HRP HX HY HF
      obtain ⟨p, hp, rfl, hm, hr, hx, hy, hf⟩ := hrel
      have HMP := hid hm; have HRP := hid hr; have HX := hid hx; have HY := hid hy; have HF := hid hf
      clear hm hr hx hy hf
      by_cases hpl : p < 8
      · have hpi : (p : Int) < 8 := by omega
        have HP7 := hid (show p ≤ 7 by omega)
        have HPL2 := hid hpl
        clear hpl hp
        go_wp2_with (fail)
        have HM2 := hid (HMP.out.frm (frm_drew wr) (fun h => h)); have HR9 := hid (HRP.out.drew); have HX2 := hid (HX.out.frm (frm_drew wr) (fun _ _ _ _ h => h)); have HY2 := hid (HY.out.frm (frm_drew wr) (fun _ _ _ _ h => h)); have HF2 := hid (bdrew HF.out)
        clear HMP HRP HX HY HF
        have HMP := HM2; have HRP := HR9; have HX := HX2; have HY := HY2; have HF := HF2
        clear HM2 HR9 HX2 HY2 HF2
        refine wp_region_held_drew (S := fun wx => True) (by kernel_rfl) (by trivial) (fun hHeld => ?_)
        refine wpAnyH_take (i := 0) (oi := ⟨some 51, _, _, _, _, _⟩) (v := ?v1) rfl (by kernel_rfl) (by kernel_rfl) (by kernel_rfl) (fun _ _ _ h => h) (Or.inl ⟨by rfl, ?y1⟩) (by assumption) ?r1
        case y1 => (intro wx hSx; (try dsimp only at hSx); go_simp; (try with_reducible rfl))
        try simp only [Act.put, List.setIfInBounds_toArray, List.set_cons_zero, List.set_cons_succ]
        refine wpAnyH_take (i := 1) (oi := ⟨some 52, _, _, _, _, _⟩) (v := ?v2) rfl (by kernel_rfl) (by kernel_rfl) (by kernel_rfl) (fun _ _ _ h => h) (Or.inl ⟨by rfl, ?y2⟩) (by assumption) ?r2
        case y2 => (intro wx hSx; (try dsimp only at hSx); go_simp; (try with_reducible rfl))
        try simp only [Act.put, List.setIfInBounds_toArray, List.set_cons_zero, List.set_cons_succ]
        refine wpAnyH_take (i := 4) (oi := ⟨some 55, _, _, _, _, _⟩) (v := ?v3) rfl (by kernel_rfl) (by kernel_rfl) (by kernel_rfl) (fun _ _ _ h => h) (Or.inl ⟨by rfl, ?y3⟩) (by assumption) ?r3
        case y3 => (intro wx hSx; (try dsimp only at hSx); go_simp; (try with_reducible rfl))
        try simp only [Act.put, List.setIfInBounds_toArray, List.set_cons_zero, List.set_cons_succ]
        refine wpAnyH_take (i := 5) (oi := ⟨some 56, _, _, _, _, _⟩) (v := ?v4) rfl (by kernel_rfl) (by kernel_rfl) (by kernel_rfl) (fun _ _ _ h => h) (Or.inl ⟨by rfl, ?y4⟩) (by assumption) ?r4
        case y4 => (intro wx hSx; (try dsimp only at hSx); go_simp; (try with_reducible rfl))
        try simp only [Act.put, List.setIfInBounds_toArray, List.set_cons_zero, List.set_cons_succ]
        refine wpAnyH_ready (rs := [2]) (by kernel_rfl) (by simp) ?_
        refine AllReadyH.cons (o := ⟨some 53, _, _, _, _, _⟩) rfl (fun K hK => ?_) AllReadyH.nil
        go_simp
        go_wp2_with ((go_at_call 18; (with_reducible refine (Page_bs HMP.out p HP7.out).mono ?_); rintro e w9 ⟨a1, c1, rfl, hi, f'⟩; have HI := hid hi; have n0_ := hid (HMP.out.frm f' (fun h => h)); have n1_ := hid (HRP.out.frm f' (fun h => h)); have n2_ := hid (HX.out.frm f' (fun _ _ _ _ h => h)); have n3_ := hid (HY.out.frm f' (fun _ _ _ _ h => h)); have n4_ := hid (below_frm0 HF.out f'); clear HMP HRP HX HY HF; have HMP := n0_; clear n0_; have HRP := n1_; clear n1_; have HX := n2_; clear n2_; have HY := n3_; clear n3_; have HF := n4_; clear n4_; clear f' hi))
        refine hK.out _ _ ?_ (fun hHeld2 => ?_)
        · ((try dsimp only); (try trivial))
        clear hK K hHeld; have hHeld := hHeld2; clear hHeld2
        try simp only [Act.put, List.setIfInBounds_toArray, List.set_cons_zero, List.set_cons_succ]
        refine wpAnyH_to (S' := fun wx => (convert 58 9 (.slice a1 (pageB vs cs p).length c1)).run Try.prog wx = .ok (.string (strOfNums (pageB vs cs p))) wx) (fun _ h => trivial) _ _ _ _ ?_
        have hHeld2 : (fun wx => (convert 58 9 (.slice a1 (pageB vs cs p).length c1)).run Try.prog wx = .ok (.string (strOfNums (pageB vs cs p))) wx) _ := conv_of HI.out rfl
        clear hHeld; have hHeld := hHeld2; clear hHeld2; (try dsimp only at hHeld)
        refine wpAnyH_take (i := 3) (oi := ⟨some 54, _, _, _, _, _⟩) (v := ?v5) rfl (by kernel_rfl) (by kernel_rfl) (by kernel_rfl) (fun _ _ _ h => h) (Or.inl ⟨by rfl, ?y5⟩) (by assumption) ?r5
        case y5 => (intro wx hSx; (try dsimp only at hSx); go_simp; (try with_reducible rfl))
        try simp only [Act.put, List.setIfInBounds_toArray, List.set_cons_zero, List.set_cons_succ]
        refine wpAnyH_ready (rs := [6]) (by kernel_rfl) (by simp) ?_
        refine AllReadyH.cons (o := ⟨some 57, _, _, _, _, _⟩) rfl (fun K hK => ?_) AllReadyH.nil
        go_simp
        go_wp2_with ((go_at_call 19; (with_reducible refine (RPage_bs HRP.out H00.out p HP7.out).mono ?_); rintro e w10 ⟨a2, c2, rfl, hi, f'⟩; have HI2 := hid hi; have n0_ := hid (HI.out.below f' (Nat.le_refl _)); have n1_ := hid (HMP.out.frm (frm0_of f') (fun h => h)); have n2_ := hid (HRP.out.frm (frm0_of f') (fun h => h)); have n3_ := hid (HX.out.b0 f'); have n4_ := hid (HY.out.b0 f'); have n5_ := hid (below_next HF.out f'); clear HI HMP HRP HX HY HF; have HI := n0_; clear n0_; have HMP := n1_; clear n1_; have HRP := n2_; clear n2_; have HX := n3_; clear n3_; have HY := n4_; clear n4_; have HF := n5_; clear n5_; clear f' hi))
        refine hK.out _ _ ?_ (fun hHeld2 => ?_)
        · ((try dsimp only); exact conv_of HI.out rfl)
        clear hK K hHeld; have hHeld := hHeld2; clear hHeld2
        try simp only [Act.put, List.setIfInBounds_toArray, List.set_cons_zero, List.set_cons_succ]
        refine wpAnyH_to (S' := fun wx => (convert 58 9 (.slice a1 (pageB vs cs p).length c1)).run Try.prog wx = .ok (.string (strOfNums (pageB vs cs p))) wx ∧ (convert 58 9 (.slice a2 (pageB vs cs p).length c2)).run Try.prog wx = .ok (.string (strOfNums (pageB vs cs p))) wx) (fun _ h => h.1) _ _ _ _ ?_
        have hHeld2 : (fun wx => (convert 58 9 (.slice a1 (pageB vs cs p).length c1)).run Try.prog wx = .ok (.string (strOfNums (pageB vs cs p))) wx ∧ (convert 58 9 (.slice a2 (pageB vs cs p).length c2)).run Try.prog wx = .ok (.string (strOfNums (pageB vs cs p))) wx) _ := ⟨conv_of HI.out rfl, conv_of HI2.out rfl⟩
        clear hHeld; have hHeld := hHeld2; clear hHeld2; (try dsimp only at hHeld)
        refine wpAnyH_take (i := 7) (oi := ⟨some 58, _, _, _, _, _⟩) (v := ?v6) rfl (by kernel_rfl) (by kernel_rfl) (by kernel_rfl) (fun _ _ _ h => h) (Or.inl ⟨by rfl, ?y6⟩) (by assumption) ?r6
        case y6 => (intro wx hSx; (try dsimp only at hSx); go_simp; (try with_reducible rfl))
        try simp only [Act.put, List.setIfInBounds_toArray, List.set_cons_zero, List.set_cons_succ]
        refine wpAnyH_take (i := 8) (oi := ⟨some 59, _, _, _, _, _⟩) (v := ?v7) rfl (by kernel_rfl) (by kernel_rfl) (by kernel_rfl) (fun _ _ _ h => h) (Or.inl ⟨by rfl, ?y7⟩) (by assumption) ?r7
        case y7 => (intro wx hSx; (try dsimp only at hSx); go_simp; (try with_reducible rfl))
        try simp only [Act.put, List.setIfInBounds_toArray, List.set_cons_zero, List.set_cons_succ]
        refine wpAnyH_done (by kernel_rfl) ?_ _
        go_wp2
        go_roundw
        case rel => exact ⟨p + 1, by have := HPL2.out; omega, by go_num, HMP.out, HRP.out, HX.out, HY.out, HF.out⟩
        case measure => simp [intOf]; have := HPL2.out; omega
      · have hpi : (8 : Int) ≤ (p : Int) := by omega
        clear hpl hp
        go_wp2_with (first
          | (go_at_call 10; (with_reducible refine (Reqs_t HX.out HY.out HXN.out).mono ?_); rintro e w11 ⟨rfl, f'⟩; have n0_ := hid (below_frm0 HF.out f'); clear HF; have HF := n0_; clear n0_; clear f' HX HY)
          | (go_at_call 11; (with_reducible refine (Right_t (H1.out.b0 HF.out) HR.out (H2.out.bel HF.out) HA.out zr HZR.out).mono ?_); rintro e w12 ⟨rfl, f'⟩; have n0_ := hid (below_next HF.out f'); clear HF; have HF := n0_; clear n0_; clear f')
          | (go_at_call 20; (with_reducible refine (RRight_calls (H1.out.b0 HF.out) HR.out (H2.out.bel HF.out) HA.out zr HZR.out).mono ?_); rintro e w13 ⟨rfl, f'⟩; have n0_ := hid (below_next HF.out f'); clear HF; have HF := n0_; clear n0_; clear f')
          | (go_at_call 14; (with_reducible refine (Once_t (H1.out.b0 HF.out) HR.out HR2.out).mono ?_); rintro e w14 ⟨rfl, f'⟩; have n0_ := hid (below_next HF.out f'); clear HF; have HF := n0_; clear n0_; clear f'))
        go_ret
        exact ⟨rfl, HF.out⟩
theorem CheckTells_walk (a0 : Option Addr) (c0 : Nat) (z0 : List (List DnX)) (a1 : Option Addr) (c1 : Nat) (z1 : List RqX) (a2 : Option Addr) (c2 : Nat) (z2 : List AnX) (last : Int) (w : World) (h0 : SlK c34 w a0 c0 z0) (h1 : SlK c30 w a1 c1 z1) (h2 : SlK c44 w a2 c2 z2) (w3 : (Lit.int .u32 last).wf = true) :
    Calls Try.prog 6 #[.slice a0 z0.length c0, .slice a1 z1.length c1, .slice a2 z2.length c2, .int .u32 last] w fun e w' => e = .returned (.bool true) ∧ Below w.heap.size w w' :=
  CheckTells_core a0 c0 z0.length _ a1 c1 z1.length _ a2 c2 z2.length _ last w (IsDss.of_slk h0).1 (List.length_map ..) (IsDss.of_slk h0).2 (IsRqs.of_slk h1) (List.length_map ..) (IsAns.of_slk h2) (List.length_map ..) (bnd32 w3)
end Go.Proofs.Ytljfbaakgjmmfaa
