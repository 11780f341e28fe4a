/- A map in pages: its method Load, for a good page and for one bad one. -/
import Derived.Test.YtfdmneefobfldaaPgLaw
namespace Go.Proofs.Ytfdmneefobfldaa
open Go.RowKit Go.ChangeShapes
set_option linter.unusedVariables false
set_option linter.unusedSimpArgs false
set_option maxRecDepth 4000
theorem Page_of {w : World} {b : Nat} {vs cs : List Int} (h : IsMap w b vs cs) (P : Int) (p : Nat) (hP : P = p) (hp : p ≤ 7) :
    Calls Try.prog 12 #[.pointer (some ⟨b, 0, none⟩), .int .i64 P] w fun e w' => ∃ g, e = .returned (.slice (some ⟨g, 0, none⟩) (pageB vs cs p).length (pageB vs cs p).length) ∧ w.heap.size ≤ g ∧ IsInts .u8 w' (some ⟨g, 0, none⟩) (pageB vs cs p).length (pageB vs cs p) ∧ Frm (fun _ => False) w w' := by
  subst hP
  by_cases h7 : p = 7
  · subst h7; exact Page_clis h
  · exact Page_vals h p (by omega)
theorem he_of {f g : Nat → List Int} {p q : Nat} (h : ∀ q : Nat, q < 8 → q ≠ p → f q = g q) (h1 : q < 8) (h2 : q ≠ p) : f q = g q := h q h1 h2
set_option maxHeartbeats 8000000 in
theorem Others_calls {w : World} {o b : Nat} {zs ds us es : List Int} (h : IsMap w o zs ds) (h' : IsMap w b us es) (hob : o ≠ b) (P : Int) (p : Nat) (hP : P = p) (he : ∀ q : Nat, q < 8 → q ≠ p → pageB zs ds q = pageB us es q) :
    Calls Try.prog 56 #[.pointer (some ⟨o, 0, none⟩), .pointer (some ⟨b, 0, none⟩), .int .i64 P] w fun e w' => e = .returned (.bool true) ∧ Frm (fun _ => False) w w' := by
  have HO0 := hid h; have HB0 := hid h'; have HE := hid he; have HN := hid hob
  clear h h' he hob
  go_enter Try.func56, Try.ntmps56
  go_wp2
  go_loopw [8] (fun kk wr => ∃ q : Nat, q ≤ 8 ∧ kk = .int .i64 (q : Int) ∧ Frm (fun _ => False) w wr) (fun kk _ => 8 - (intOf kk).toNat)
  case atStart => exact ⟨0, by omega, by simp, Frm.refl _ _⟩
  case round =>
    obtain ⟨q, hq, rfl, hF⟩ := hrel
    have HF := hid hF; clear hF
    have HO := hid (HO0.out.frm HF.out (fun h => h)); have HB := hid (HB0.out.frm HF.out (fun h => h))
    by_cases hq8 : q < 8
    · have hlt : (q : Int) < 8 := by omega
      by_cases hqp : q = p
      · have e1 : ((q : Int) == P) = true := by rw [hP, hqp]; exact beq_self_eq_true _
        have e2 : ((q : Int) != P) = false := by rw [hP, hqp]; simp
        have HQ := hid hqp; have HP := hid hP; have HQ8 := hid hq8
        clear hqp hP hq hq8
        go_wp2
        go_roundw
        case rel => exact ⟨q + 1, HQ8.out, by first | rfl | go_num, HF.out⟩
        case measure => simp [intOf]; omega
      · have e1 : ((q : Int) == P) = false := beq_eq_false_iff_ne.2 (by omega)
        have e2 : ((q : Int) != P) = true := by rw [bne, e1]; rfl
        have HPE := hid (HE.out q hq8 hqp)
        have HQ8 := hid hq8; have HP := hid hP; have HQ := hid hqp
        clear hqp hP hq hq8
        go_wp2_with (first
          | (go_at_call 12; (with_reducible refine (Page_of HO.out (q : Int) q rfl (by have := HQ8.out; omega)).mono ?_); rintro e w' ⟨g1, rfl, _, h1, f'⟩; have HI1 := hid h1; have n0_ := hid (HO.out.frm f' (fun h => h)); have n1_ := hid (HB.out.frm f' (fun h => h)); have n2_ := hid (HF.out.trans f'); clear HO HB HF; have HO := n0_; clear n0_; have HB := n1_; clear n1_; have HF := n2_; clear n2_; clear f' h1)
          | (go_at_call 12; (with_reducible refine (Page_of HB.out (q : Int) q rfl (by have := HQ8.out; omega)).mono ?_); rintro e w' ⟨g2, rfl, _, h2, f'⟩; have HI2 := hid h2; have n0_ := hid (HI1.out.frm f' (fun _ _ h => h)); have n1_ := hid (HO.out.frm f' (fun h => h)); have n2_ := hid (HB.out.frm f' (fun h => h)); have n3_ := hid (HF.out.trans f'); clear HI1 HO HB HF; have HI1 := n0_; clear n0_; have HO := n1_; clear n1_; have HB := n2_; clear n2_; have HF := n3_; clear n3_; clear f' h2)
          | (go_at_call 55; (with_reducible refine (Equal_calls HI1.out HI2.out rfl rfl true (by rw [HPE.out]; exact beq_self_eq_true _)).mono ?_); rintro e w' ⟨rfl, rfl⟩; skip))
        go_roundw
        case rel => exact ⟨q + 1, HQ8.out, by first | rfl | go_num, HF.out⟩
        case measure => simp [intOf]; have := HQ8.out; omega
    · have hge : 8 ≤ (q : Int) := by omega
      clear hq8
      go_wp2
      go_ret
      exact ⟨rfl, HF.out⟩
theorem hx_at {w w' : World} {A : Option Addr} {c : Nat} {x : List Int} (h : IsInts .u8 w A c x) (f : Below w.heap.size w w') : IsInts .u8 w' A c x := h.frm (frm0_of f) (fun _ _ h => h)
theorem IsMap.below {w w' : World} {b : Nat} {vs cs : List Int} (h : IsMap w b vs cs) (f : Below w.heap.size w w') (hb : b < w.heap.size) : IsMap w' b vs cs := h.frm (frm0_of f) (fun h => h)
theorem below_frm2 {w a c : World} {b r : Nat} (h : Below w.heap.size w a) (f : Frm (fun q => q = b ∨ q = r) a c) (hb : w.heap.size ≤ b) (hr : w.heap.size ≤ r) : Below w.heap.size w c := below_frm h f (fun k hk e => by rcases e with e | e <;> omega)
def rdLen (r : Nat) (w : World) : Nat := match w.cell? ⟨r, 0, none⟩ with | some (.slice _ l _) => l | _ => 0
theorem IsRd.len {w : World} {r : Nat} {x : List Int} (h : IsRd w r x) : rdLen r w = x.length := by
  obtain ⟨g, off, c, hb, hi, hn⟩ := h.blk
  have := hb.cell 0
  simp only [List.getElem?_cons_zero] at this
  rw [rdLen, this]
theorem Left_at {w : World} {b : Nat} {x : List Int} (h : IsRd w b x) {n : Nat} (hn : x.length = n) : Calls Try.prog 53 #[.pointer (some ⟨b, 0, none⟩)] w fun e w' => e = .returned (.int .i64 n) ∧ w = w' := hn ▸ Left_calls h
theorem kbs_cons (k v : Int) (es : List (Int × Int)) : kbs ((k, v) :: es) = be k 1 ++ be v 2 ++ kbs es := by unfold kbs; rw [List.flatMap_cons]
theorem cbs_cons (i t v : Int) (es : List (Int × Int × Int)) : cbs ((i, t, v) :: es) = be i 1 ++ (be t 4 ++ be v 4) ++ cbs es := by unfold cbs; rw [List.flatMap_cons]
theorem blk_heap {w : World} {b : Nat} {cs : List Value} {T : Nat} (h : Blk w b cs T) : w.heap[b]? = some (.cells cs.toArray T (0, 0)) := h
theorem pcells_size {w : World} {b o : Nat} {us ds vs cs : List Int} (h : IsMap w b us ds) (h' : IsMap w o vs cs) : (pcells us ds).toArray.size = (pcells vs cs).toArray.size := by
  rw [List.size_toArray, List.size_toArray, pcells_len h.lv h.lc, pcells_len h'.lv h'.lc]
/-- A whole map over another one. -/
theorem map_over {w wz : World} {b o : Nat} {us ds vs cs : List Int} (hF : Below w.heap.size w wz) (hb : b < w.heap.size) (hB : IsMap wz b us ds) (hM : IsMap wz o vs cs) :
    IsMap (wz.setRow b (pcells vs cs).toArray) b vs cs ∧ Frm (· = b) w (wz.setRow b (pcells vs cs).toArray) := by
  refine ⟨⟨setRow_heap wz b _ _ TM (0, 0) (blk_heap hB.blk), hM.lv, hM.lc, hM.bv, hM.bc⟩, hF.os, hF.tape, hF.output, by rw [Go.setRow_size]; exact hF.size, fun k hk hn => ?_⟩
  rw [Go.setRow_other wz b k _ hn]
  exact hF.block k hk
theorem Clear_vals' {w : World} {b : Nat} {vs cs : List Int} (h : IsMap w b vs cs) (P : Int) (p : Nat) (hP : P = p) (hp : p < 7) (us : List Int) (hu : clrV vs p (pcount p) = us) :
    Calls Try.prog 51 #[.pointer (some ⟨b, 0, none⟩), .int .i64 P] w fun e w' => e = .returned (.tuple #[]) ∧ IsMap w' b us cs ∧ Frm (· = b) w w' := by
  subst hP; exact Clear_vals h p hp us hu
set_option maxRecDepth 100000 in
set_option maxHeartbeats 8000000 in
theorem Load_val {w : World} {b : Nat} {us ds : List Int} (h : IsMap w b us ds) {A : Option Addr} {c m : Nat} {x : List Int} (hx : IsInts .u8 w A c x) (hm : x.length = m) (P : Int) (p : Nat) (hP : P = p) (hp : p < 7) (vs : List Int) (hv : ∀ x ∈ vs, 0 ≤ x ∧ x ≤ 65535) (hxe : x = pvals vs p (pcount p)) (zs : List Int) (hz : loadV us vs p = zs) :
    Calls Try.prog 33 #[.pointer (some ⟨b, 0, none⟩), .int .i64 P, .slice A m c] w fun e w' => e = .returned (.int .i64 0) ∧ IsMap w' b zs ds ∧ Frm (· = b) w w' := by
  have HM0 := hid h; have HX := hid hx; have HL := hid hm
  have HBL := hid h.blk.lt
  have HLS := hid (show x.length ≤ 281474976710656 by rw [hxe]; exact Nat.le_trans (pvals_len vs p (pcount p)) (by unfold pcount; omega))
  have hP0 : 0 ≤ P := by omega
  have hP7 : P < 7 := by omega
  have hP7' : P ≤ 7 := by omega
  have HPN := hid (show P ≠ 7 by omega)
  have HP := hid hP; have HP7 := hid hp; have HV := hid hv; have HXE := hid hxe; have HZ := hid hz
  have hlu := h.lv
  have HOT := hid (show ∀ q : Nat, q < 8 → q ≠ p → pageB zs ds q = pageB us ds q from fun q h1 h2 => hz ▸ page_others hlu hp q h1 h2)
  have HEQ := hid (show (pageB zs ds p == x) = true by rw [← hz, page_loaded hlu hp, hxe]; exact beq_self_eq_true _)
  have HOB := hid (Nat.ne_of_gt h.blk.lt)
  clear hP hp hv hxe hz hlu
  clear h hx hm
  go_enter Try.func33, Try.ntmps33
  go_wp2_with (first
    | (go_at_call 32; (with_reducible refine (PCopy_calls HM0.out).mono ?_); rintro e w' ⟨rfl, h', f'⟩; have HM := hid h'; have HF := hid f'; clear h' f')
    | (go_at_call 51; (with_reducible refine (Clear_vals' HM.out P p HP.out HP7.out _ rfl).mono ?_); rintro e w' ⟨rfl, h', f'⟩; have n0_ := hid (h'); have n1_ := hid (below_frm1 HF.out f' (Nat.le_refl _)); clear HM HF; have HM := n0_; clear n0_; have HF := n1_; clear n1_; clear f' h')
    | (go_at_call 52; (with_reducible refine (Open_calls (hx_at HX.out HF.out) HL.out HLS.out).mono ?_); rintro e w' ⟨r, hr, rfl, h', f'⟩; have HR := hid h'; have HRO := hid (Nat.ne_of_gt (Nat.lt_of_lt_of_le HM.out.blk.lt hr)); have HRG := hid (Nat.le_trans HF.out.size hr); have n0_ := hid (HM.out.frm (frm0_of f') (fun h => h)); have n1_ := hid (below_next HF.out f'); clear HM HF; have HM := n0_; clear n0_; have HF := n1_; clear n1_; clear f' h' hr))
  go_loopw [] (fun wr => ∃ done rest, kents vs p (pcount p) = done ++ rest ∧ IsMap wr w.heap.size (putAll (clrV us p (pcount p)) done) ds ∧ IsRd wr r (kbs rest) ∧ Below w.heap.size w wr) (fun wr => rdLen r wr)
  case atStart => exact ⟨[], kents vs p (pcount p), rfl, HM.out, by rw [kbs_kents, ← HXE.out]; exact HR.out, HF.out⟩
  case round =>
    clear HM HF HR
    obtain ⟨done, rest, hE, hM, hR, hF⟩ := hrel
    have HE := hid hE; have HM := hid hM; have HR := hid hR; have HF := hid hF
    clear hE hM hR hF
    have HRL := hid (HR.out.len)
    cases rest with
    | cons e rest =>
      obtain ⟨k, v⟩ := e
      have hmem := kents_mem HV.out HP7.out (k, v) (by rw [HE.out]; simp)
      have HK := hid (show 0 ≤ k ∧ k < 256 by have := hmem.1; omega); have HVB := hid hmem.2; clear hmem
      have hgt : (0 : Int) < ((kbs ((k, v) :: rest)).length : Int) := by rw [kbs_cons, List.length_append, List.length_append, be_len]; omega
      have HR2 := hid (show IsRd _ r (be k 1 ++ (be v 2 ++ kbs rest)) by rw [← List.append_assoc]; exact kbs_cons k v rest ▸ HR.out)
      obtain ⟨N, hN⟩ : ∃ N, (kbs ((k, v) :: rest)).length = N := ⟨_, rfl⟩
      have HNN := hid hN
      rw [hN] at hgt; clear hN
      go_wp2_with (first
        | (go_at_call 53; (with_reducible refine (Left_at HR.out HNN.out).mono ?_); rintro e w' ⟨rfl, rfl⟩; skip)
        | (go_at_call 54; (with_reducible refine (Reads_val HM.out k v HK.out HVB.out HR2.out HRO.out P HPN.out _ rfl).mono ?_); rintro e w' ⟨rfl, h', h2', f'⟩; have n0_ := hid (h'); have n1_ := hid (h2'); have n2_ := hid (below_frm2 HF.out f' (Nat.le_refl _) HRG.out); clear HM HR HF; have HM := n0_; clear n0_; have HR := n1_; clear n1_; have HF := n2_; clear n2_; clear f' h' h2'))
      go_roundw
      case rel => exact ⟨done ++ [(k, v)], rest, by rw [HE.out]; simp, by rw [putAll_append]; exact HM.out, HR.out, HF.out⟩
      case measure => rw [HR.out.len, HRL.out, kbs_cons, List.length_append, List.length_append, be_len]; omega
    | nil =>
      have HE2 := hid (show done = kents vs p (pcount p) by have := HE.out; simpa using this.symm)
      clear HE
      have HM2 := hid (show IsMap _ w.heap.size zs ds from HZ.out ▸ (show putAll (clrV us p (pcount p)) done = loadV us vs p by rw [HE2.out]; rfl) ▸ HM.out)
      clear HM; have HM := HM2; clear HM2
      have HMB := hid (HM0.out.below HF.out HBL.out)
      have HMF := hid HM.out
      have HIX := hid (hx_at HX.out HF.out)
      go_wp2_with (first
        | (go_at_call 53; (with_reducible refine (Left_calls HR.out).mono ?_); rintro e w' ⟨rfl, rfl⟩; skip)
        | (go_at_call 12; (with_reducible refine (Page_of HM.out P p HP.out (by have := HP7.out; omega)).mono ?_); rintro e w' ⟨g1, rfl, _, h1, f'⟩; have HI1 := hid h1; have n0_ := hid (HM.out.frm f' (fun h => h)); have n1_ := hid (HMB.out.frm f' (fun h => h)); have n2_ := hid (HIX.out.frm f' (fun _ _ h => h)); have n3_ := hid (below_frm0 HF.out f'); clear HM HMB HIX HF; have HM := n0_; clear n0_; have HMB := n1_; clear n1_; have HIX := n2_; clear n2_; have HF := n3_; clear n3_; clear f' h1)
        | (go_at_call 55; (with_reducible refine (Equal_calls HI1.out HIX.out rfl HL.out true HEQ.out).mono ?_); rintro e w' ⟨rfl, rfl⟩; skip)
        | (go_at_call 56; (with_reducible refine (Others_calls HM.out HMB.out HOB.out P p HP.out HOT.out).mono ?_); rintro e w' ⟨rfl, f'⟩; have n0_ := hid (HM.out.frm f' (fun h => h)); have n1_ := hid (HMB.out.frm f' (fun h => h)); have n2_ := hid (below_frm0 HF.out f'); clear HM HMB HF; have HM := n0_; clear n0_; have HMB := n1_; clear n1_; have HF := n2_; clear n2_; clear f'; have HC := hid (blk_heap HM.out.blk); have HD := hid (blk_heap HMB.out.blk); have HS := hid (map_size HM.out.lv HM.out.lc); have HS2 := hid (pcells_size HMB.out HM.out); have H1 := hid (pcells_one zs ds))
        | ((with_reducible show wpList _ _ _ _ _ _); refine wpList_load_row rfl TM (.tmp 44) rfl w.heap.size rfl TM _ (0, 0) _ HC.out Try.underlying77 rfl HS.out ?_)
        | ((with_reducible show wpList _ _ _ _ _ _); refine wpList_store_row rfl TM (.tmp 46) (.tmp 45) rfl b _ rfl rfl TM _ HD.out HS.out HS2.out H1.out ?_))
      go_ret
      obtain ⟨r1, r2⟩ := map_over HF.out HBL.out HMB.out HM.out
      exact ⟨rfl, r1, r2⟩
set_option maxRecDepth 100000 in
set_option maxHeartbeats 8000000 in
theorem Load_cli {w : World} {b : Nat} {us ds : List Int} (h : IsMap w b us ds) {A : Option Addr} {c m : Nat} {x : List Int} (hx : IsInts .u8 w A c x) (hm : x.length = m) (P : Int) (hP : P = 7) (cs : List Int) (hg : GoodC cs) (hv : ∀ x ∈ cs, 0 ≤ x ∧ x ≤ 4294967295) (hxe : x = pclis cs 5) :
    Calls Try.prog 33 #[.pointer (some ⟨b, 0, none⟩), .int .i64 P, .slice A m c] w fun e w' => e = .returned (.int .i64 0) ∧ IsMap w' b us cs ∧ Frm (· = b) w w' := by
  have HM0 := hid h; have HX := hid hx; have HL := hid hm
  have HBL := hid h.blk.lt
  subst hP
  have HLS := hid (show x.length ≤ 281474976710656 by rw [hxe]; exact Nat.le_trans (pclis_len cs 5) (by decide))
  have HG := hid hg; have HV := hid hv; have HXE := hid hxe
  have HOT := hid (show ∀ q : Nat, q < 8 → q ≠ 7 → pageB us cs q = pageB us ds q from fun q h1 h2 => pageB_vals us cs ds (by omega))
  have HEQ := hid (show (pageB us cs 7 == x) = true by rw [hxe]; exact beq_self_eq_true _)
  have HOB := hid (Nat.ne_of_gt h.blk.lt)
  clear hg hv hxe
  clear h hx hm
  go_enter Try.func33, Try.ntmps33
  go_wp2_with (first
    | (go_at_call 32; (with_reducible refine (PCopy_calls HM0.out).mono ?_); rintro e w' ⟨rfl, h', f'⟩; have HM := hid h'; have HF := hid f'; clear h' f')
    | (go_at_call 51; (with_reducible refine (Clear_clis HM.out).mono ?_); rintro e w' ⟨rfl, h', f'⟩; have n0_ := hid (h'); have n1_ := hid (below_frm1 HF.out f' (Nat.le_refl _)); clear HM HF; have HM := n0_; clear n0_; have HF := n1_; clear n1_; clear f' h')
    | (go_at_call 52; (with_reducible refine (Open_calls (hx_at HX.out HF.out) HL.out HLS.out).mono ?_); rintro e w' ⟨r, hr, rfl, h', f'⟩; have HR := hid h'; have HRO := hid (Nat.ne_of_gt (Nat.lt_of_lt_of_le HM.out.blk.lt hr)); have HRG := hid (Nat.le_trans HF.out.size hr); have n0_ := hid (HM.out.frm (frm0_of f') (fun h => h)); have n1_ := hid (below_next HF.out f'); clear HM HF; have HM := n0_; clear n0_; have HF := n1_; clear n1_; clear f' h' hr))
  go_loopw [] (fun wr => ∃ done rest, cents cs 5 = done ++ rest ∧ IsMap wr w.heap.size us (setAll (List.replicate 10 0) done) ∧ IsRd wr r (cbs rest) ∧ Below w.heap.size w wr) (fun wr => rdLen r wr)
  case atStart => exact ⟨[], cents cs 5, rfl, HM.out, by rw [cbs_cents, ← HXE.out]; exact HR.out, HF.out⟩
  case round =>
    clear HM HF HR
    obtain ⟨done, rest, hE, hM, hR, hF⟩ := hrel
    have HE := hid hE; have HM := hid hM; have HR := hid hR; have HF := hid hF
    clear hE hM hR hF
    have HRL := hid (HR.out.len)
    cases rest with
    | cons e rest =>
      obtain ⟨i, t, v⟩ := e
      have hmem := cents_mem HV.out (i, t, v) (by rw [HE.out]; simp)
      have HK := hid hmem.1; have HTB := hid hmem.2.1; have HVB := hid hmem.2.2; clear hmem
      have hgt : (0 : Int) < ((cbs ((i, t, v) :: rest)).length : Int) := by rw [cbs_cons, List.length_append, List.length_append, be_len]; omega
      have HR2 := hid (show IsRd _ r (be i 1 ++ (be t 4 ++ (be v 4 ++ cbs rest))) by have := HR.out; rw [cbs_cons, List.append_assoc, List.append_assoc] at this; exact this)
      obtain ⟨N, hN⟩ : ∃ N, (cbs ((i, t, v) :: rest)).length = N := ⟨_, rfl⟩
      have HNN := hid hN
      rw [hN] at hgt; clear hN
      go_wp2_with (first
        | (go_at_call 53; (with_reducible refine (Left_at HR.out HNN.out).mono ?_); rintro e w' ⟨rfl, rfl⟩; skip)
        | (go_at_call 54; (with_reducible refine (Reads_cli HM.out i t v HK.out HTB.out HVB.out HR2.out HRO.out _ rfl).mono ?_); rintro e w' ⟨rfl, h', h2', f'⟩; have n0_ := hid (h'); have n1_ := hid (h2'); have n2_ := hid (below_frm2 HF.out f' (Nat.le_refl _) HRG.out); clear HM HR HF; have HM := n0_; clear n0_; have HR := n1_; clear n1_; have HF := n2_; clear n2_; clear f' h' h2'))
      go_roundw
      case rel => exact ⟨done ++ [(i, t, v)], rest, by rw [HE.out]; simp, by rw [setAll_append]; exact HM.out, HR.out, HF.out⟩
      case measure => rw [HR.out.len, HRL.out, cbs_cons, List.length_append, List.length_append, be_len]; omega
    | nil =>
      have HE2 := hid (show done = cents cs 5 by have := HE.out; simpa using this.symm)
      clear HE
      have HM2 := hid (show IsMap _ w.heap.size us cs from (show setAll (List.replicate 10 0) done = cs by rw [HE2.out]; exact setAll_cents HG.out) ▸ HM.out)
      clear HM; have HM := HM2; clear HM2
      have HMB := hid (HM0.out.below HF.out HBL.out)
      have HMF := hid HM.out
      have HIX := hid (hx_at HX.out HF.out)
      go_wp2_with (first
        | (go_at_call 53; (with_reducible refine (Left_calls HR.out).mono ?_); rintro e w' ⟨rfl, rfl⟩; skip)
        | (go_at_call 12; (with_reducible refine (Page_of HM.out 7 7 rfl (by decide)).mono ?_); rintro e w' ⟨g1, rfl, _, h1, f'⟩; have HI1 := hid h1; have n0_ := hid (HM.out.frm f' (fun h => h)); have n1_ := hid (HMB.out.frm f' (fun h => h)); have n2_ := hid (HIX.out.frm f' (fun _ _ h => h)); have n3_ := hid (below_frm0 HF.out f'); clear HM HMB HIX HF; have HM := n0_; clear n0_; have HMB := n1_; clear n1_; have HIX := n2_; clear n2_; have HF := n3_; clear n3_; clear f' h1)
        | (go_at_call 55; (with_reducible refine (Equal_calls HI1.out HIX.out rfl HL.out true HEQ.out).mono ?_); rintro e w' ⟨rfl, rfl⟩; skip)
        | (go_at_call 56; (with_reducible refine (Others_calls HM.out HMB.out HOB.out 7 7 rfl HOT.out).mono ?_); rintro e w' ⟨rfl, f'⟩; have n0_ := hid (HM.out.frm f' (fun h => h)); have n1_ := hid (HMB.out.frm f' (fun h => h)); have n2_ := hid (below_frm0 HF.out f'); clear HM HMB HF; have HM := n0_; clear n0_; have HMB := n1_; clear n1_; have HF := n2_; clear n2_; clear f'; have HC := hid (blk_heap HM.out.blk); have HD := hid (blk_heap HMB.out.blk); have HS := hid (map_size HM.out.lv HM.out.lc); have HS2 := hid (pcells_size HMB.out HM.out); have H1 := hid (pcells_one us cs))
        | ((with_reducible show wpList _ _ _ _ _ _); refine wpList_load_row rfl TM (.tmp 44) rfl w.heap.size rfl TM _ (0, 0) _ HC.out Try.underlying77 rfl HS.out ?_)
        | ((with_reducible show wpList _ _ _ _ _ _); refine wpList_store_row rfl TM (.tmp 46) (.tmp 45) rfl b _ rfl rfl TM _ HD.out HS.out HS2.out H1.out ?_))
      go_ret
      obtain ⟨r1, r2⟩ := map_over HF.out HBL.out HMB.out HM.out
      exact ⟨rfl, r1, r2⟩
set_option maxRecDepth 100000 in
set_option maxHeartbeats 8000000 in
theorem Load_bad {w : World} {b : Nat} {us ds : List Int} (h : IsMap w b us ds) {A : Option Addr} {c m : Nat} {x : List Int} (hx : IsInts .u8 w A c x) (hm : x.length = m) (hxe : x = [9]) (hb : (pageB (putV (clrV us 1 (pcount 1)) 9 0) ds 1 == [9]) = false) :
    Calls Try.prog 33 #[.pointer (some ⟨b, 0, none⟩), .int .i64 1, .slice A m c] w fun e w' => e = .returned (.int .i64 90) ∧ Frm (fun _ => False) w w' := by
  have HM0 := hid h; have HX := hid hx; have HL := hid hm
  have HBL := hid h.blk.lt
  subst hxe
  have HLS := hid (show [(9 : Int)].length ≤ 281474976710656 by decide)
  have HEQ := hid hb; clear hb
  clear h hx hm
  go_enter Try.func33, Try.ntmps33
  go_wp2_with (first
    | (go_at_call 32; (with_reducible refine (PCopy_calls HM0.out).mono ?_); rintro e w' ⟨rfl, h', f'⟩; have HM := hid h'; have HF := hid f'; clear h' f')
    | (go_at_call 51; (with_reducible refine (Clear_vals' HM.out 1 1 rfl (by decide) _ rfl).mono ?_); rintro e w' ⟨rfl, h', f'⟩; have n0_ := hid (h'); have n1_ := hid (below_frm1 HF.out f' (Nat.le_refl _)); clear HM HF; have HM := n0_; clear n0_; have HF := n1_; clear n1_; clear f' h')
    | (go_at_call 52; (with_reducible refine (Open_calls (hx_at HX.out HF.out) HL.out HLS.out).mono ?_); rintro e w' ⟨r, hr, rfl, h', f'⟩; have HR := hid h'; have HRO := hid (Nat.ne_of_gt (Nat.lt_of_lt_of_le HM.out.blk.lt hr)); have HRG := hid (Nat.le_trans HF.out.size hr); have n0_ := hid (HM.out.frm (frm0_of f') (fun h => h)); have n1_ := hid (below_next HF.out f'); clear HM HF; have HM := n0_; clear n0_; have HF := n1_; clear n1_; clear f' h' hr))
  go_loopw [] (fun wr => (IsMap wr w.heap.size (clrV us 1 (pcount 1)) ds ∧ IsRd wr r [9] ∧ Below w.heap.size w wr) ∨ (IsMap wr w.heap.size (putV (clrV us 1 (pcount 1)) 9 0) ds ∧ IsRd wr r [] ∧ Below w.heap.size w wr)) (fun wr => rdLen r wr)
  case atStart => exact .inl ⟨HM.out, HR.out, HF.out⟩
  case round =>
    clear HM HF HR
    rcases hrel with ⟨hM, hR, hF⟩ | ⟨hM, hR, hF⟩
    · have HM := hid hM; have HR := hid hR; have HF := hid hF
      clear hM hR hF
      have HRL := hid (HR.out.len)
      go_wp2_with (first
        | (go_at_call 53; (with_reducible refine (Left_at HR.out (n := 1) rfl).mono ?_); rintro e w' ⟨rfl, rfl⟩; skip)
        | (go_at_call 54; (with_reducible refine (Reads_one HM.out 9 (by decide) HR.out HRO.out 1 (by decide) _ rfl).mono ?_); rintro e w' ⟨rfl, h', h2', f'⟩; have n0_ := hid (h'); have n1_ := hid (h2'); have n2_ := hid (below_frm2 HF.out f' (Nat.le_refl _) HRG.out); clear HM HR HF; have HM := n0_; clear n0_; have HR := n1_; clear n1_; have HF := n2_; clear n2_; clear f' h' h2'))
      go_roundw
      case rel => exact .inr ⟨HM.out, HR.out, HF.out⟩
      case measure => rw [HR.out.len, HRL.out]; decide
    · have HM := hid hM; have HR := hid hR; have HF := hid hF
      clear hM hR hF
      have HIX := hid (hx_at HX.out HF.out)
      go_wp2_with (first
        | (go_at_call 53; (with_reducible refine (Left_at HR.out (n := 0) rfl).mono ?_); rintro e w' ⟨rfl, rfl⟩; skip)
        | (go_at_call 12; (with_reducible refine (Page_of HM.out 1 1 rfl (by decide)).mono ?_); rintro e w' ⟨g1, rfl, _, h1, f'⟩; have HI1 := hid h1; have n0_ := hid (HM.out.frm f' (fun h => h)); have n1_ := hid (HIX.out.frm f' (fun _ _ h => h)); have n2_ := hid (below_frm0 HF.out f'); clear HM HIX HF; have HM := n0_; clear n0_; have HIX := n1_; clear n1_; have HF := n2_; clear n2_; clear f' h1)
        | (go_at_call 55; (with_reducible refine (Equal_calls HI1.out HIX.out rfl HL.out false HEQ.out).mono ?_); rintro e w' ⟨rfl, rfl⟩; skip))
      go_ret
      exact ⟨rfl, frm0_of HF.out⟩
end Go.Proofs.Ytfdmneefobfldaa
