/- A request's numbers as a text. -/
import Derived.Test.YtipalebaaejfjaaDoorFmtU
import Derived.Test.YtipalebaaejfjaaDoorOwnZ
import Derived.Test.YtipalebaaejfjaaDoorDcDef
namespace Go.Proofs.YtipalebaaejfjaaDoor
open Go.RowKit Go.ChangeShapes
set_option linter.unusedVariables false
set_option linter.unusedSimpArgs false
theorem Frm.own0 {w a b : World} {S : Nat → Prop} (h : Frm (fun _ => False) w a) (f : Frm S a b) (hs : ∀ k, S k → ¬ k < w.heap.size) : Frm (fun _ => False) w b := h.trans' f (fun i hi h => hs i h hi)
theorem Tab.frm {w w' : World} (h : Tab w) (f : Frm (fun _ => False) w w') : Tab w' := by
  unfold Tab Lib.TabIs World.var? at *
  cases hg : Tryd.prog.globalNamed "internal/strconv.uint64pow10" with
  | none => simp [hg] at h
  | some g =>
    simp only [hg, Option.bind_some] at h ⊢
    have hlt : g < w.heap.size := by
      rcases Nat.lt_or_ge g w.heap.size with h' | h'
      · exact h'
      · simp [Array.getElem?_eq_none h'] at h
    rw [f.block g hlt (fun h => h)]; exact h
set_option maxRecDepth 100000
theorem nd20 (u : Nat) (hu : u < 18446744073709551616) : (Lib.decDigits u).length ≤ 20 := by
  rw [Lib.decDigits_length]
  by_cases h : 1 ≤ u
  · have := Lib.numDigits_eq u h hu; split at this <;> omega
  · obtain rfl : u = 0 := by omega
    rw [Lib.nDigits_small (by decide)]; decide
/-- A request's numbers as a text. -/
def textB (c t k y x : Int) : ByteArray := ⟨(Lib.join (([decS c.toNat, decS t.toNat, decS k.toNat, decS y.toNat, decS x.toNat] : List ByteArray).map (·.data.toList)) [58]).toArray⟩
theorem text_len (a b c d e : Nat) (ha : a < 18446744073709551616) (hb : b < 18446744073709551616) (hc : c < 18446744073709551616) (hd : d < 18446744073709551616) (he : e < 18446744073709551616) :
    (Lib.join (([decS a, decS b, decS c, decS d, decS e] : List ByteArray).map (·.data.toList)) [58]).length ≤ 140737488355328 := by
  have h1 := nd20 a ha; have h2 := nd20 b hb; have h3 := nd20 c hc; have h4 := nd20 d hd; have h5 := nd20 e he
  simp [Lib.join, List.intercalate, decS]
  omega
abbrev TSs : Nat := 72
def TxB (n : Int) : Prop := 0 ≤ n ∧ n < 4294967296
theorem OwnZ.cells {w : World} {A : Nat → Prop} {v : Value} {l : List ByteArray} (h : OwnZ w A v l) (hl : 0 < l.length) : ∃ g c, v = .slice (some ⟨g, 0, none⟩) l.length c ∧ l.length ≤ c ∧ g < w.heap.size ∧ ∀ (j : Nat) x, l[j]? = some x → w.cell? ⟨g, 0 + j, none⟩ = some (.string x) := by
  obtain ⟨g, c, hv, hle, hm, hc⟩ := h.at_ hl
  have hb : v.ownBlock = some g := by rw [hv]; rfl
  refine ⟨g, c, hv, hle, h.lt hb, fun j x hj => ?_⟩
  have := hc j x hj 0 (by decide)
  rw [Nat.mul_one, Nat.add_zero] at this
  rw [Nat.zero_add, this]; rfl
theorem Join_five {w : World} {g c : Nat} {a b d e f : Nat} (ha : a < 18446744073709551616) (hb : b < 18446744073709551616) (hd : d < 18446744073709551616) (he : e < 18446744073709551616) (hf : f < 18446744073709551616) (hc : 5 ≤ c) (hg : g < w.heap.size) (h : ∀ (j : Nat) x, ([decS a, decS b, decS d, decS e, decS f] : List ByteArray)[j]? = some x → w.cell? ⟨g, 0 + j, none⟩ = some (.string x)) :
    Calls Tryd.prog 52 #[.slice (some ⟨g, 0, none⟩) 5 c, .string { data := #[58] }] w fun e' w' => e' = .returned (.string (textB a b d e f)) ∧ Frm (fun _ => False) w w' :=
  (Tryd.strings_Join g 0 c [decS a, decS b, decS d, decS e, decS f] { data := #[58] } w h hg (by show 5 ≤ _; decide) hc (text_len a b d e f ha hb hd he hf)).mono (fun _ _ h => ⟨h.1, Frm.of_below h.2 (fun _ h1 h2 => by omega)⟩)
set_option maxHeartbeats 16000000 in
theorem Text_calls (w : World) (htab : Tab w) (c t k y x : Int) (hc : TxB c) (ht : TxB t) (hk : TxB k) (hy : TxB y) (hx : TxB x) :
    Calls Tryd.prog 48 #[.agg #[.int .u8 c, .int .u32 t, .int .u8 k, .int .u8 y, .int .u16 x]] w fun e w' => e = .returned (.string (textB c t k y x)) ∧ Frm (fun _ => False) w w' := by
  obtain ⟨cn, rfl⟩ : ∃ n : Nat, c = n := ⟨c.toNat, by have := hc.1; omega⟩
  obtain ⟨tn, rfl⟩ : ∃ n : Nat, t = n := ⟨t.toNat, by have := ht.1; omega⟩
  obtain ⟨kn, rfl⟩ : ∃ n : Nat, k = n := ⟨k.toNat, by have := hk.1; omega⟩
  obtain ⟨yn, rfl⟩ : ∃ n : Nat, y = n := ⟨y.toNat, by have := hy.1; omega⟩
  obtain ⟨xn, rfl⟩ : ∃ n : Nat, x = n := ⟨x.toNat, by have := hx.1; omega⟩
  have B0 := hid (show cn < 18446744073709551616 by have := hc.2; omega)
  have B1 := hid (show tn < 18446744073709551616 by have := ht.2; omega)
  have B2 := hid (show kn < 18446744073709551616 by have := hk.2; omega)
  have B3 := hid (show yn < 18446744073709551616 by have := hy.2; omega)
  have B4 := hid (show xn < 18446744073709551616 by have := hx.2; omega)
  have u0 : IntKind.u64.wrap (cn : Int) = cn := by have := B0.out; simp [IntKind.wrap, IntKind.bits, IntKind.signed]; omega
  have u1 : IntKind.u64.wrap (tn : Int) = tn := by have := B1.out; simp [IntKind.wrap, IntKind.bits, IntKind.signed]; omega
  have u2 : IntKind.u64.wrap (kn : Int) = kn := by have := B2.out; simp [IntKind.wrap, IntKind.bits, IntKind.signed]; omega
  have u3 : IntKind.u64.wrap (yn : Int) = yn := by have := B3.out; simp [IntKind.wrap, IntKind.bits, IntKind.signed]; omega
  have u4 : IntKind.u64.wrap (xn : Int) = xn := by have := B4.out; simp [IntKind.wrap, IntKind.bits, IntKind.signed]; omega
  have HTB := hid htab
  have HF0 := hid (dbox w (.cells #[.int .u8 cn, .int .u32 tn, .int .u8 kn, .int .u8 yn, .int .u16 xn] 39))
  have HO0 := hid (OwnZ.nil (w.alloc (.cells #[.int .u8 cn, .int .u32 tn, .int .u8 kn, .int .u8 yn, .int .u16 xn] 39)) (fun q => q < w.heap.size))
  clear hc ht hk hy hx htab
  go_enter Tryd.func48, Tryd.ntmps48
  go_wp2
  go_loopw [3, 25] (fun lv iv wr => ∃ (j : Nat), j ≤ 5 ∧ iv = .int .i64 j ∧ OwnZ wr (fun q => q < w.heap.size) lv (([decS cn, decS tn, decS kn, decS yn, decS xn] : List ByteArray).take j) ∧ Frm (fun _ => False) w wr) (fun _ i _ => 5 - (intOf i).toNat)
  case atStart => exact ⟨0, by omega, rfl, HO0.out, HF0.out⟩
  case round =>
    clear HF0 HO0
    obtain ⟨j, hj, rfl, ho, hf⟩ := hrel
    have HO := hid ho; have HF := hid hf
    clear ho hf
    have HTw := hid (HTB.out.frm HF.out)
    rcases (show j = 0 ∨ j = 1 ∨ j = 2 ∨ j = 3 ∨ j = 4 ∨ j = 5 by omega) with rfl | rfl | rfl | rfl | rfl | rfl
    · clear hj
      have ix : ∀ W : World, (Instr.index TSs (.agg #[.int .u64 (cn : Int), .int .u64 (tn : Int), .int .u64 (kn : Int), .int .u64 (yn : Int), .int .u64 (xn : Int)]) (.int .i64 0)).run Tryd.prog W = .ok (.int .u64 (cn : Int)) W := fun W => by kernel_rfl
      go_wp2_with (first
        | (go_at_call 51; (with_reducible refine (FormatUint_calls cn B0.out _ HTw.out).mono ?_); rintro e w4 ⟨rfl, f'⟩; have HF4 := hid (HF.out.trans f'); have HO4 := hid (HO.out.quiet f'); clear f')
        | (at_builtin; refine wpList_moreZ (decS cn) rfl _ _ rfl rfl (HO4.out.quiet (dbox _ _)) (fun q hq => by have := HF4.out.size; simp; omega) (Blk.new w4 (szC (decS cn)) 9) (by show 0 ≤ 100000; decide) rfl rfl ?_; intro v' w6 ho' hf' hat'; have HO6 := hid ho'; have HF6 := hid ((HF4.out.trans (dbox w4 (.cells (szC (decS cn)).toArray 9))).own0 hf' (fun q hq hn => HO.out.off q hq hn)); clear ho' hf' hat'))
      go_roundw
      case rel => exact ⟨0 + 1, by omega, by first | rfl | go_num, HO6.out, HF6.out⟩
      case measure => simp [intOf]
    · clear hj
      have ix : ∀ W : World, (Instr.index TSs (.agg #[.int .u64 (cn : Int), .int .u64 (tn : Int), .int .u64 (kn : Int), .int .u64 (yn : Int), .int .u64 (xn : Int)]) (.int .i64 1)).run Tryd.prog W = .ok (.int .u64 (tn : Int)) W := fun W => by kernel_rfl
      go_wp2_with (first
        | (go_at_call 51; (with_reducible refine (FormatUint_calls tn B1.out _ HTw.out).mono ?_); rintro e w4 ⟨rfl, f'⟩; have HF4 := hid (HF.out.trans f'); have HO4 := hid (HO.out.quiet f'); clear f')
        | (at_builtin; refine wpList_moreZ (decS tn) rfl _ _ rfl rfl (HO4.out.quiet (dbox _ _)) (fun q hq => by have := HF4.out.size; simp; omega) (Blk.new w4 (szC (decS tn)) 9) (by show 1 ≤ 100000; decide) rfl rfl ?_; intro v' w6 ho' hf' hat'; have HO6 := hid ho'; have HF6 := hid ((HF4.out.trans (dbox w4 (.cells (szC (decS tn)).toArray 9))).own0 hf' (fun q hq hn => HO.out.off q hq hn)); clear ho' hf' hat'))
      go_roundw
      case rel => exact ⟨1 + 1, by omega, by first | rfl | go_num, HO6.out, HF6.out⟩
      case measure => simp [intOf]
    · clear hj
      have ix : ∀ W : World, (Instr.index TSs (.agg #[.int .u64 (cn : Int), .int .u64 (tn : Int), .int .u64 (kn : Int), .int .u64 (yn : Int), .int .u64 (xn : Int)]) (.int .i64 2)).run Tryd.prog W = .ok (.int .u64 (kn : Int)) W := fun W => by kernel_rfl
      go_wp2_with (first
        | (go_at_call 51; (with_reducible refine (FormatUint_calls kn B2.out _ HTw.out).mono ?_); rintro e w4 ⟨rfl, f'⟩; have HF4 := hid (HF.out.trans f'); have HO4 := hid (HO.out.quiet f'); clear f')
        | (at_builtin; refine wpList_moreZ (decS kn) rfl _ _ rfl rfl (HO4.out.quiet (dbox _ _)) (fun q hq => by have := HF4.out.size; simp; omega) (Blk.new w4 (szC (decS kn)) 9) (by show 2 ≤ 100000; decide) rfl rfl ?_; intro v' w6 ho' hf' hat'; have HO6 := hid ho'; have HF6 := hid ((HF4.out.trans (dbox w4 (.cells (szC (decS kn)).toArray 9))).own0 hf' (fun q hq hn => HO.out.off q hq hn)); clear ho' hf' hat'))
      go_roundw
      case rel => exact ⟨2 + 1, by omega, by first | rfl | go_num, HO6.out, HF6.out⟩
      case measure => simp [intOf]
    · clear hj
      have ix : ∀ W : World, (Instr.index TSs (.agg #[.int .u64 (cn : Int), .int .u64 (tn : Int), .int .u64 (kn : Int), .int .u64 (yn : Int), .int .u64 (xn : Int)]) (.int .i64 3)).run Tryd.prog W = .ok (.int .u64 (yn : Int)) W := fun W => by kernel_rfl
      go_wp2_with (first
        | (go_at_call 51; (with_reducible refine (FormatUint_calls yn B3.out _ HTw.out).mono ?_); rintro e w4 ⟨rfl, f'⟩; have HF4 := hid (HF.out.trans f'); have HO4 := hid (HO.out.quiet f'); clear f')
        | (at_builtin; refine wpList_moreZ (decS yn) rfl _ _ rfl rfl (HO4.out.quiet (dbox _ _)) (fun q hq => by have := HF4.out.size; simp; omega) (Blk.new w4 (szC (decS yn)) 9) (by show 3 ≤ 100000; decide) rfl rfl ?_; intro v' w6 ho' hf' hat'; have HO6 := hid ho'; have HF6 := hid ((HF4.out.trans (dbox w4 (.cells (szC (decS yn)).toArray 9))).own0 hf' (fun q hq hn => HO.out.off q hq hn)); clear ho' hf' hat'))
      go_roundw
      case rel => exact ⟨3 + 1, by omega, by first | rfl | go_num, HO6.out, HF6.out⟩
      case measure => simp [intOf]
    · clear hj
      have ix : ∀ W : World, (Instr.index TSs (.agg #[.int .u64 (cn : Int), .int .u64 (tn : Int), .int .u64 (kn : Int), .int .u64 (yn : Int), .int .u64 (xn : Int)]) (.int .i64 4)).run Tryd.prog W = .ok (.int .u64 (xn : Int)) W := fun W => by kernel_rfl
      go_wp2_with (first
        | (go_at_call 51; (with_reducible refine (FormatUint_calls xn B4.out _ HTw.out).mono ?_); rintro e w4 ⟨rfl, f'⟩; have HF4 := hid (HF.out.trans f'); have HO4 := hid (HO.out.quiet f'); clear f')
        | (at_builtin; refine wpList_moreZ (decS xn) rfl _ _ rfl rfl (HO4.out.quiet (dbox _ _)) (fun q hq => by have := HF4.out.size; simp; omega) (Blk.new w4 (szC (decS xn)) 9) (by show 4 ≤ 100000; decide) rfl rfl ?_; intro v' w6 ho' hf' hat'; have HO6 := hid ho'; have HF6 := hid ((HF4.out.trans (dbox w4 (.cells (szC (decS xn)).toArray 9))).own0 hf' (fun q hq hn => HO.out.off q hq hn)); clear ho' hf' hat'))
      go_roundw
      case rel => exact ⟨4 + 1, by omega, by first | rfl | go_num, HO6.out, HF6.out⟩
      case measure => simp [intOf]
    · clear hj
      obtain ⟨g, cp, rfl, hcp, hg, hcs⟩ := HO.out.cells (by show 0 < 5; decide)
      have HG := hid hg; have HCS := hid (show ∀ (j : Nat) x, ([decS cn, decS tn, decS kn, decS yn, decS xn] : List ByteArray)[j]? = some x → _ from hcs); have HCP := hid (show 5 ≤ cp from hcp)
      rw [show ((([decS cn, decS tn, decS kn, decS yn, decS xn] : List ByteArray).take 5).length) = 5 from rfl]
      clear hg hcs hcp
      go_wp2_with (go_at_call 52; (with_reducible refine (Join_five B0.out B1.out B2.out B3.out B4.out HCP.out HG.out HCS.out).mono ?_); rintro e w5 ⟨rfl, f'⟩; have HF5 := hid (HF.out.trans f'); clear HF f')
      go_ret
      exact ⟨rfl, HF5.out⟩
end Go.Proofs.YtipalebaaejfjaaDoor
