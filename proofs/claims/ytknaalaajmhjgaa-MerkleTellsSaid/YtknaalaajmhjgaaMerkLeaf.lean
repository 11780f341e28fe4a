/- MerkleLeaf, walked: a page's sum hangs on its number and on each of its bytes. -/
import Derived.Test.YtknaalaajmhjgaaMerkKnown
namespace Go.Proofs.Ytknaalaajmhjgaa
open Go.RowKit Go.ChangeShapes
set_option linter.unusedVariables false
set_option linter.unusedSimpArgs false
theorem xor8 (v y : Int) (hv : 0 ≤ v ∧ v ≤ 255) (hy : 0 ≤ y ∧ y ≤ 255) (h0 : y ≠ 0) : (0 ≤ Go.bits .xor .u8 v y ∧ Go.bits .xor .u8 v y ≤ 255) ∧ v ≠ Go.bits .xor .u8 v y := by
  obtain ⟨a, rfl⟩ := Int.eq_ofNat_of_zero_le hv.1
  obtain ⟨b, rfl⟩ := Int.eq_ofNat_of_zero_le hy.1
  have ha : a < 2 ^ 8 := by omega
  have hb : b < 2 ^ 8 := by omega
  have hx : a ^^^ b < 2 ^ 8 := Nat.xor_lt_two_pow ha hb
  rw [u8_xor_nat a b (by omega) (by omega)]
  refine ⟨by omega, fun h => h0 ?_⟩
  have h' : a = a ^^^ b := by omega
  have h2 : a ^^^ a = a ^^^ (a ^^^ b) := congrArg (a ^^^ ·) h'
  rw [← Nat.xor_assoc, Nat.xor_self, Nat.zero_xor] at h2
  omega
/-- append in a plain region, under a guard that is met. -/
theorem wpList_moreG {ops : Array Oper} {rest : List Oper} {o : Oper} {a : Act} {w : World} {Q : Exit → Act → World → Prop} {A : Nat → Prop} {v : Value} {xs y : List Int} {ad : Option Addr} {c m : Nat} (hgd : Region.wanted o (yielded ops a.tmps) = true) (s x : Operand)
    (ho : o.op = .call { callee := .builtin .append, args := #[s, x], argTypes := #[33, 33] }) (ht : o.type = 33) (h : OwnB w A v xs) (hA : ∀ k, A k → k < w.heap.size) (hy : IsInts .u8 w ad c y) (hm : y.length = m) (hl : xs.length + m ≤ 140737488355328)
    (hs : a.eval s = v) (hx : a.eval x = .slice ad m c) (hK : ∀ a' l' c' w', OwnB w' A (.slice a' l' c') (xs ++ y) → Frm (fun k => v.ownBlock = some k) w w' → (∀ k, (Value.slice a' l' c').ownBlock = some k → v.ownBlock = some k ∨ w.heap.size ≤ k) → wpList Try.prog ops Q rest (a.put o.dst (.slice a' l' c')) w') :
    wpList Try.prog ops Q (o :: rest) a w := by
  subst hm
  obtain ⟨v', w', hr, h1, h2, h3⟩ := app_more h hA hy hl
  obtain ⟨a', c', rfl, _, _⟩ := h1.ints
  unfold wpList
  rw [if_pos hgd]
  refine .inl ?_
  have hr' : (Builtin.append_ #[33, 33] o.type #[v, .slice ad y.length c]).run Try.prog w = .ok (.slice a' (xs ++ y).length c') w' := ht ▸ hr
  unfold Oper.wp execOp
  simp only [ho, resolve, invoke, builtin, Sem.run_bind, Sem.run_pure, Result.andThen_ok, List.map_toArray, List.map_cons, List.map_nil, hs, hx, hr']
  exact hK a' _ c' w' h1 h2 h3
theorem own_one (w : World) (A : Nat → Prop) (hA : ¬ A w.heap.size) (d : Int) (hd : (Lit.int .u8 d).wf = true) : OwnB (w.alloc (.cells #[.int .u8 d] 5)) A (.slice (some ⟨w.heap.size, 0, none⟩) 1 1) [d] := by
  have hg : (w.alloc (.cells #[.int .u8 d] 5)).heap[w.heap.size]? = some (.cells #[.int .u8 d] 5 (0, 0)) := by
    show (w.heap.push _)[w.heap.size]? = _
    simp
  refine ⟨⟨rfl, .inr ⟨w.heap.size, 1, _, rfl, Nat.zero_le _, hg, Nat.le_refl _, by simp only [maxLen]; omega, rfl, rfl⟩⟩, fun k hk => ?_, fun n hn => by rw [List.mem_singleton.1 hn]; exact hd⟩
  simp [Value.ownBlock] at hk
  subst hk
  exact hA
theorem leafS_page {n m : Int} {b : List Int} (hn : 0 ≤ n ∧ n < 256) (hm : 0 ≤ m ∧ m < 256) (hb : Bts b) (hne : n ≠ m) : leafS n b ≠ leafS m b := by
  have e1 : n % 256 = n := by omega
  have e2 : m % 256 = m := by omega
  unfold leafS
  rw [e1, e2]
  have := sFrom_set (m :: b) (fun x hx => by
    rcases List.mem_cons.1 hx with rfl | h
    · omega
    · exact hb x h) n (by omega) 0 14695981039346656037 (by decide) (by simp) (by simpa using (Ne.symm hne))
  exact this
theorem leafS_set {n : Int} {b : List Int} (hn : 0 ≤ n ∧ n < 256) (hb : Bts b) (k : Nat) (hk : k < b.length) (d : Int) (hd : 0 ≤ d ∧ d ≤ 255) (hne : b.getD k 0 ≠ d) : leafS n (b.set k d) ≠ leafS n b := by
  have e1 : n % 256 = n := by omega
  unfold leafS
  rw [e1]
  have := sFrom_set (n :: b) (fun x hx => by
    rcases List.mem_cons.1 hx with rfl | h
    · omega
    · exact hb x h) d hd (k + 1) 14695981039346656037 (by decide) (by simpa using hk) (by simpa using hne)
  exact this
set_option maxRecDepth 100000 in
set_option maxHeartbeats 8000000 in
theorem MerkleLeaf_walk (p : Int) (a : Option Addr) (c : Nat) (b : List Int) (at_ by_ : Int) (w : World) (w0 : (Lit.int .u8 p).wf = true) (h1 : IsInts .u8 w a c b) (w2 : (Lit.int .u8 at_).wf = true) (w3 : (Lit.int .u8 by_).wf = true) :
    Calls Try.prog 4 #[.int .u8 p, .slice a b.length c, .int .u8 at_, .int .u8 by_] w fun e w' => e = .returned (.bool true) ∧ Below w.heap.size w w' := by
  have hp := bounds_u8 w0
  have hat := bounds_u8 w2
  have hby := bounds_u8 w3
  clear w0 w2 w3
  have hle := h1.le
  have hsm := h1.small
  by_cases hlen : b.length > 200
  · go_enter Try.func4, Try.ntmps4
    go_wp2_with (go_at_call 8; (with_reducible refine (known_calls _).mono ?_); rintro e w' ⟨rfl, f1⟩)
    go_ret
    exact ⟨rfl, f1⟩
  have H1 := hid h1; clear h1
  have hbb : Bts b := fun n hn => bounds_u8 (H1.out.wf n hn)
  obtain ⟨n, hn⟩ : ∃ n, p % 8 = n := ⟨_, rfl⟩
  obtain ⟨m, hm⟩ : ∃ m, (n + 1) % 8 = m := ⟨_, rfl⟩
  have hn8 : 0 ≤ n ∧ n < 8 := by omega
  have hm8 : 0 ≤ m ∧ m < 8 := by omega
  have hnm : n ≠ m := by omega
  obtain ⟨X, hX⟩ : ∃ X, leafS n b = X := ⟨_, rfl⟩
  obtain ⟨Y, hY⟩ : ∃ Y, leafS m b = Y := ⟨_, rfl⟩
  have hXY : X ≠ Y := by rw [← hX, ← hY]; exact leafS_page (by omega) (by omega) hbb hnm
  have qXY : (X == Y) = false := beq_eq_false_iff_ne.2 hXY
  have e8 : IntKind.u8.wrap n = n := by rw [wrap_u8]; omega
  have hnw : (Lit.int .u8 n).wf = true := by have h0 := hn8.1; have h8 := hn8.2; simp [Lit.wf, IntKind.min, IntKind.max, IntKind.bits, IntKind.signed]; omega
  have HSX := hid (show sFrom 14695981039346656037 ([n] ++ b) = X by rw [← hX, leafS, show n % 256 = n by omega]; rfl)
  have HX := hid hX; have HY := hid hY; have HNW := hid hnw; have HBB := hid hbb
  have HL := hid (show b.length ≤ 100000 by omega)
  clear hX hY hXY hnm hnw hbb
  obtain ⟨N, hN⟩ : ∃ N, b.length = N := ⟨_, rfl⟩
  by_cases h0 : b.length = 0 ∨ by_ = 0
  · by_cases hb0 : b.length = 0
    · have qb : ((b.length : Int) == 0) = true := beq_iff_eq.2 (by omega)
      clear h0
      have HB0 := hid hb0; clear hb0 hN
      go_enter Try.func4, Try.ntmps4
      go_wp2_with (first
        | (go_at_call 8; (with_reducible refine (known_calls _).mono ?_); rintro e w1 ⟨rfl, f1⟩; have HF := hid f1; clear f1)
        | (go_at_call 13; (with_reducible refine (Leaf_calls n b.length (H1.out.below HF.out (Nat.le_refl _)) rfl HL.out X HX.out).mono ?_); rintro e w' ⟨rfl, f'⟩; have n0_ := hid (below_frm0 HF.out f'); clear HF; have HF := n0_; clear n0_; clear f')
        | (go_at_call 13; (with_reducible refine (Leaf_calls m b.length (H1.out.below HF.out (Nat.le_refl _)) rfl HL.out Y HY.out).mono ?_); rintro e w' ⟨rfl, f'⟩; have n0_ := hid (below_frm0 HF.out f'); clear HF; have HF := n0_; clear n0_; clear f')
        | (at_builtin; refine wpList_moreG (by rfl) _ _ rfl rfl (own_one _ (fun k => k < w.heap.size) (Nat.not_lt.2 HF.out.size) n HNW.out) (fun k hk => by have := HF.out.size; simp; omega) (H1.out.below (HF.out.alloc HF.out.size _) (Nat.le_refl _)) rfl (by have := HL.out; simp; omega) rfl rfl ?_; intro a' l' c' wq ho' hf' hat'; have HF2 := hid ((HF.out.alloc HF.out.size _).trans (hf'.below (by have := HF.out.size; simp; omega) (fun k hk hn => by have := HF.out.size; simp [Value.ownBlock] at hn; omega))); clear HF hf' hat'; have HF := HF2; have HV := hid ho'; clear ho' HF2)
        | (go_at_call 14; obtain ⟨a9, c9, e9, hi9, _⟩ := HV.out.ints; cases e9; (with_reducible refine (RSum_calls hi9 _ rfl X HSX.out).mono ?_); rintro e w' ⟨rfl, rfl⟩; clear hi9 HV))
      go_ret
      exact ⟨rfl, HF.out⟩
    · have hy0 : by_ = 0 := h0.resolve_left hb0
      subst hy0
      clear h0 hN
      go_enter Try.func4, Try.ntmps4
      go_wp2_with (first
        | (go_at_call 8; (with_reducible refine (known_calls _).mono ?_); rintro e w1 ⟨rfl, f1⟩; have HF := hid f1; clear f1)
        | (go_at_call 13; (with_reducible refine (Leaf_calls n b.length (H1.out.below HF.out (Nat.le_refl _)) rfl HL.out X HX.out).mono ?_); rintro e w' ⟨rfl, f'⟩; have n0_ := hid (below_frm0 HF.out f'); clear HF; have HF := n0_; clear n0_; clear f')
        | (go_at_call 13; (with_reducible refine (Leaf_calls m b.length (H1.out.below HF.out (Nat.le_refl _)) rfl HL.out Y HY.out).mono ?_); rintro e w' ⟨rfl, f'⟩; have n0_ := hid (below_frm0 HF.out f'); clear HF; have HF := n0_; clear n0_; clear f')
        | (at_builtin; refine wpList_moreG (by rfl) _ _ rfl rfl (own_one _ (fun k => k < w.heap.size) (Nat.not_lt.2 HF.out.size) n HNW.out) (fun k hk => by have := HF.out.size; simp; omega) (H1.out.below (HF.out.alloc HF.out.size _) (Nat.le_refl _)) rfl (by have := HL.out; simp; omega) rfl rfl ?_; intro a' l' c' wq ho' hf' hat'; have HF2 := hid ((HF.out.alloc HF.out.size _).trans (hf'.below (by have := HF.out.size; simp; omega) (fun k hk hn => by have := HF.out.size; simp [Value.ownBlock] at hn; omega))); clear HF hf' hat'; have HF := HF2; have HV := hid ho'; clear ho' HF2)
        | (go_at_call 14; obtain ⟨a9, c9, e9, hi9, _⟩ := HV.out.ints; cases e9; (with_reducible refine (RSum_calls hi9 _ rfl X HSX.out).mono ?_); rintro e w' ⟨rfl, rfl⟩; clear hi9 HV))
      go_ret
      exact ⟨rfl, HF.out⟩
  have hb0 : 0 < b.length := by omega
  have hby0 : by_ ≠ 0 := by omega
  have qb : ((b.length : Int) == 0) = false := beq_eq_false_iff_ne.2 (by omega)
  have qy : (by_ == 0) = false := beq_eq_false_iff_ne.2 hby0
  have hbi : (0 : Int) < (b.length : Int) := by omega
  obtain ⟨k, hk⟩ : ∃ k : Nat, at_ % (b.length : Int) = (k : Int) := ⟨(at_ % (b.length : Int)).toNat, by have := Int.emod_nonneg at_ (show (b.length : Int) ≠ 0 by omega); omega⟩
  have hkN : k < b.length := by
    have := Int.emod_lt_of_pos at_ hbi
    omega
  have hkI : (k : Int) < (b.length : Int) := by omega
  obtain ⟨v, hv⟩ : ∃ v, b.getD k 0 = v := ⟨_, rfl⟩
  have hvb : 0 ≤ v ∧ v ≤ 255 := by
    rw [← hv, List.getD_eq_getElem?_getD, List.getElem?_eq_getElem hkN]
    exact HBB.out _ (List.getElem_mem hkN)
  obtain ⟨d, hd⟩ : ∃ d, Go.bits .xor .u8 v by_ = d := ⟨_, rfl⟩
  have hx8 := xor8 v by_ hvb hby hby0
  rw [hd] at hx8
  obtain ⟨Z, hZ⟩ : ∃ Z, leafS n (b.set k d) = Z := ⟨_, rfl⟩
  have hZX : Z ≠ X := by rw [← hZ, ← HX.out]; exact leafS_set (by omega) HBB.out k hkN d hx8.1 (by rw [hv]; exact hx8.2)
  have qZX : (Z == X) = false := beq_eq_false_iff_ne.2 hZX
  have qZX2 : (Z != X) = true := bne_iff_ne.2 hZX
  have hdw : (Lit.int .u8 d).wf = true := by have h0 := hx8.1.1; have h8 := hx8.1.2; simp [Lit.wf, IntKind.min, IntKind.max, IntKind.bits, IntKind.signed]; omega
  have HZ := hid hZ; have HDW := hid hdw; have HV9 := hid hv; have HKN := hid hkN; have HB0 := hid hb0
  clear hZ hZX hdw hx8 hv h0 hN
  go_enter Try.func4, Try.ntmps4
  go_wp2_with (first
    | (go_at_call 8; (with_reducible refine (known_calls _).mono ?_); rintro e w1 ⟨rfl, f1⟩; have HF := hid f1; clear f1)
    | (go_at_call 13; (with_reducible refine (Leaf_calls n b.length (H1.out.below HF.out (Nat.le_refl _)) rfl HL.out X HX.out).mono ?_); rintro e w' ⟨rfl, f'⟩; have n0_ := hid (below_frm0 HF.out f'); clear HF; have HF := n0_; clear n0_; clear f')
    | (go_at_call 13; (with_reducible refine (Leaf_calls m b.length (H1.out.below HF.out (Nat.le_refl _)) rfl HL.out Y HY.out).mono ?_); rintro e w' ⟨rfl, f'⟩; have n0_ := hid (below_frm0 HF.out f'); clear HF; have HF := n0_; clear n0_; clear f')
    | (at_builtin; refine wpList_moreG (by rfl) _ _ rfl rfl (own_one _ (fun k => k < w.heap.size) (Nat.not_lt.2 HF.out.size) n HNW.out) (fun k hk => by have := HF.out.size; simp; omega) (H1.out.below (HF.out.alloc HF.out.size _) (Nat.le_refl _)) rfl (by have := HL.out; simp; omega) rfl rfl ?_; intro a' l' c' wq ho' hf' hat'; have HF2 := hid ((HF.out.alloc HF.out.size _).trans (hf'.below (by have := HF.out.size; simp; omega) (fun k hk hn => by have := HF.out.size; simp [Value.ownBlock] at hn; omega))); clear HF hf' hat'; have HF := HF2; have HV := hid ho'; clear ho' HF2)
    | (go_at_call 14; obtain ⟨a9, c9, e9, hi9, _⟩ := HV.out.ints; cases e9; (with_reducible refine (RSum_calls hi9 _ rfl X HSX.out).mono ?_); rintro e w' ⟨rfl, rfl⟩; clear hi9 HV)
    | (at_builtin; obtain ⟨g, cap, cs, wa, hrun, hblk, htk, hcl, hcm, hfr, hgn⟩ := app_own (H1.out.below HF.out (Nat.le_refl _)) (by have := HL.out; omega) HB0.out; refine wpList_run rfl _ _ _ _ rfl rfl rfl hrun ?_; clear hrun; have u0 : wa.cell? ⟨g, k, none⟩ = some (.int .u8 v) := (hblk.cell k).trans (by rw [own_cell htk HKN.out, HV9.out]); have z0 : wa.frozen? ⟨g, k, none⟩ = false := hblk.free k; have hci : (b.length : Int) ≤ (cap : Int) := (by omega); have HIC := hid (IsInts.of_set hblk htk hcl hcm H1.out.wf k d HDW.out); have HFA := hid ((below_frm0 HF.out hfr).setCell (p := ⟨g, k, none⟩) (Nat.le_trans HF.out.size hgn) (.int .u8 d)); clear HF hblk htk hcl hcm hfr hgn)
    | (go_at_call 13; (with_reducible refine (Leaf_calls n b.length HIC.out (by rw [List.length_set]) HL.out Z HZ.out).mono ?_); rintro e w' ⟨rfl, f'⟩; have HFE := hid (below_frm0 HFA.out f'); clear f'))
  go_ret
  exact ⟨rfl, HFE.out⟩
end Go.Proofs.Ytknaalaajmhjgaa
