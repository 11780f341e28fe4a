/- A map in pages: its block, its methods Get, Put, Client, SetClient. -/
import Derived.Test.YtljfbaakgjmmfaaStr
import Derived.Deep.RegionHeld3
namespace Go.Proofs.Ytljfbaakgjmmfaa
open Go.RowKit Go.ChangeShapes
set_option linter.unusedVariables false
set_option linter.unusedSimpArgs false
theorem frm_box (w : World) (o : Obj) : Frm (fun _ => False) w (w.alloc o) := (Frm.refl _ _).alloc o
abbrev TM : Nat := 73
def pcells (vs cs : List Int) : List Value := vs.map (Value.int .u16) ++ cs.map (Value.int .u32)
/-- The map at b: values by keys; times and results by clients, one behind the other. -/
structure IsMap (w : World) (b : Nat) (vs cs : List Int) : Prop where
  blk : Blk w b (pcells vs cs) TM
  lv : vs.length = 64
  lc : cs.length = 10
  bv : ∀ x ∈ vs, 0 ≤ x ∧ x ≤ 65535
  bc : ∀ x ∈ cs, 0 ≤ x ∧ x ≤ 4294967295
theorem IsMap.frm {S : Nat → Prop} {w w' : World} {b : Nat} {vs cs : List Int} (h : IsMap w b vs cs) (f : Frm S w w') (hb : ¬ S b) : IsMap w' b vs cs := ⟨h.blk.frm f hb, h.lv, h.lc, h.bv, h.bc⟩
def getV (vs : List Int) (k : Int) : Int := if k < 64 then vs.getD k.toNat 0 else 0
def getT (cs : List Int) (i : Int) : Int := if 1 ≤ i ∧ i ≤ 4 then cs.getD (i.toNat * 2) 0 else 0
def getR (cs : List Int) (i : Int) : Int := if 1 ≤ i ∧ i ≤ 4 then cs.getD (i.toNat * 2 + 1) 0 else 0
def putV (vs : List Int) (k v : Int) : List Int := if k < 64 then vs.set k.toNat v else vs
def setC (cs : List Int) (i t r : Int) : List Int := if 1 ≤ i ∧ i ≤ 4 then (cs.set (i.toNat * 2) t).set (i.toNat * 2 + 1) (if t = 0 then 0 else r) else cs
theorem getD_bd {l : List Int} {m : Int} (h : ∀ x ∈ l, 0 ≤ x ∧ x ≤ m) (hm : 0 ≤ m) (i : Nat) : 0 ≤ l.getD i 0 ∧ l.getD i 0 ≤ m := by
  rw [List.getD_eq_getElem?_getD]
  rcases Nat.lt_or_ge i l.length with hi | hi
  · rw [List.getElem?_eq_getElem hi]; exact h _ (List.getElem_mem hi)
  · rw [List.getElem?_eq_none hi]; exact ⟨Int.le_refl _, hm⟩
theorem set_bd {l : List Int} {m : Int} (h : ∀ x ∈ l, 0 ≤ x ∧ x ≤ m) (i : Nat) {v : Int} (hv : 0 ≤ v ∧ v ≤ m) : ∀ x ∈ l.set i v, 0 ≤ x ∧ x ≤ m := fun x hx => by
  rcases List.mem_or_eq_of_mem_set hx with h' | rfl
  · exact h x h'
  · exact hv
theorem IsMap.val {w : World} {b : Nat} {vs cs : List Int} (h : IsMap w b vs cs) (k : Nat) (hk : k < 64) : w.cell? ⟨b, k, none⟩ = some (.int .u16 (vs.getD k 0)) := by
  have hl := h.lv
  rw [h.blk.cell, pcells, List.getElem?_append_left (by rw [List.length_map]; omega), List.getElem?_map, List.getD_eq_getElem?_getD, List.getElem?_eq_getElem (by omega)]
  rfl
theorem IsMap.cli {w : World} {b : Nat} {vs cs : List Int} (h : IsMap w b vs cs) (k : Nat) (hk : k < 10) : w.cell? ⟨b, 64 + k, none⟩ = some (.int .u32 (cs.getD k 0)) := by
  have hl := h.lv
  have hc := h.lc
  rw [h.blk.cell, pcells, List.getElem?_append_right (by rw [List.length_map]; omega), List.length_map, List.getElem?_map, List.getD_eq_getElem?_getD, show 64 + k - vs.length = k by omega, List.getElem?_eq_getElem (by omega)]
  rfl
theorem IsMap.setVal {w : World} {b : Nat} {vs cs : List Int} (h : IsMap w b vs cs) (k : Nat) (hk : k < 64) (v : Int) (hv : 0 ≤ v ∧ v ≤ 65535) : IsMap (w.setCell ⟨b, k, none⟩ (.int .u16 v)) b (vs.set k v) cs := by
  have hl := h.lv
  have hb := h.blk.setCell k (.int .u16 v)
  rw [pcells, List.set_append_left _ _ (by rw [List.length_map]; omega), ← List.map_set] at hb
  exact ⟨hb, by rw [List.length_set]; exact hl, h.lc, set_bd h.bv k hv, h.bc⟩
theorem IsMap.setCli {w : World} {b : Nat} {vs cs : List Int} (h : IsMap w b vs cs) (k : Nat) (hk : k < 10) (v : Int) (hv : 0 ≤ v ∧ v ≤ 4294967295) : IsMap (w.setCell ⟨b, 64 + k, none⟩ (.int .u32 v)) b vs (cs.set k v) := by
  have hl := h.lv
  have hb := h.blk.setCell (64 + k) (.int .u32 v)
  rw [pcells, List.set_append_right _ _ (by rw [List.length_map]; omega), List.length_map, show 64 + k - vs.length = k by omega, ← List.map_set] at hb
  exact ⟨hb, hl, by rw [List.length_set]; exact h.lc, h.bv, set_bd h.bc k hv⟩
theorem zeroMap (w : World) : (zeroValue TM).run Try.prog w = .ok (.agg (pcells (List.replicate 64 0) (List.replicate 10 0)).toArray) w := by kernel_rfl
theorem PNew_calls (w : World) : Calls Try.prog 23 #[] w fun e w' =>
    e = .returned (.pointer (some ⟨w.heap.size, 0, none⟩)) ∧ IsMap w' w.heap.size (List.replicate 64 0) (List.replicate 10 0) ∧ Below w.heap.size w w' := by
  obtain ⟨Z, hZ⟩ : ∃ Z, (pcells (List.replicate 64 0) (List.replicate 10 0)).toArray = Z := ⟨_, rfl⟩
  have hz := zeroMap
  rw [hZ] at hz
  have HZ := hid hZ; clear hZ
  go_enter Try.func23, Try.ntmps23
  go_wp2
  go_ret
  have hb := Blk.new w (pcells (List.replicate 64 0) (List.replicate 10 0)) TM
  rw [HZ.out] at hb
  exact ⟨rfl, ⟨hb, by decide, by decide, by decide, by decide⟩, (Below.refl _ _).alloc (Nat.le_refl _) _⟩
theorem PGet_calls {w : World} {b : Nat} {vs cs : List Int} (h : IsMap w b vs cs) (k : Int) (hk : 0 ≤ k) (v : Int) (hv : getV vs k = v) :
    Calls Try.prog 13 #[.pointer (some ⟨b, 0, none⟩), .int .u8 k] w fun e w' => e = .returned (.int .u16 v) ∧ w = w' := by
  obtain ⟨n, rfl⟩ := Int.eq_ofNat_of_zero_le hk
  by_cases hn : n < 64
  · have q := h.val n hn
    rw [getV, if_pos (by omega), Int.toNat_natCast] at hv
    rw [hv] at q
    clear hv h
    go_enter Try.func13, Try.ntmps13
    go_wp2
    go_ret
    exact ⟨rfl, rfl⟩
  · rw [getV, if_neg (by omega)] at hv
    subst hv
    clear h
    go_enter Try.func13, Try.ntmps13
    go_wp2
    go_ret
    exact ⟨rfl, rfl⟩
theorem PPut_calls {w : World} {b : Nat} {vs cs : List Int} (h : IsMap w b vs cs) (k : Int) (hk : 0 ≤ k) (v : Int) (hv : 0 ≤ v ∧ v ≤ 65535) (us : List Int) (hu : putV vs k v = us) :
    Calls Try.prog 38 #[.pointer (some ⟨b, 0, none⟩), .int .u8 k, .int .u16 v] w fun e w' => e = .returned (.tuple #[]) ∧ IsMap w' b us cs ∧ Frm (· = b) w w' := by
  obtain ⟨n, rfl⟩ := Int.eq_ofNat_of_zero_le hk
  by_cases hn : n < 64
  · have q := h.val n hn
    have z := h.blk.free n
    rw [putV, if_pos (by omega), Int.toNat_natCast] at hu
    have HM := hid h; clear h
    have HV := hid hv; clear hv
    have HU := hid hu; clear hu
    go_enter Try.func38, Try.ntmps38
    go_wp2
    go_end0
    exact ⟨rfl, HU.out ▸ HM.out.setVal n hn v HV.out, (Frm.refl _ _).setCell _ _ (.inr rfl)⟩
  · rw [putV, if_neg (by omega)] at hu
    subst hu
    have HM := hid h; clear h
    go_enter Try.func38, Try.ntmps38
    go_wp2
    go_end0
    exact ⟨rfl, HM.out, Frm.refl _ _⟩
theorem PClient_calls {w : World} {b : Nat} {vs cs : List Int} (h : IsMap w b vs cs) (i : Int) (hi : 0 ≤ i) (t r : Int) (ht : getT cs i = t) (hr : getR cs i = r) :
    Calls Try.prog 34 #[.pointer (some ⟨b, 0, none⟩), .int .u8 i] w fun e w' => e = .returned (.tuple #[.int .u32 t, .int .u32 r]) ∧ Frm (fun _ => False) w w' := by
  obtain ⟨n, rfl⟩ := Int.eq_ofNat_of_zero_le hi
  by_cases hn : 1 ≤ n ∧ n ≤ 4
  · have q0 := h.cli (n * 2) (by omega)
    have q1 : w.cell? ⟨b, 64 + n * 2 + 1, none⟩ = _ := h.cli (n * 2 + 1) (by omega)
    rw [getT, if_pos (by omega), Int.toNat_natCast] at ht
    rw [getR, if_pos (by omega), Int.toNat_natCast] at hr
    rw [ht] at q0
    rw [hr] at q1
    clear ht hr h hi
    obtain ⟨h1, h4⟩ := hn
    have h1' : 1 ≤ (n : Int) := by omega
    have h4' : (n : Int) ≤ 4 := by omega
    go_enter Try.func34, Try.ntmps34
    go_wp2
    go_region
    go_wp2
    go_ret2
    exact ⟨rfl, ((Frm.refl _ _).alloc _).drew⟩
  · rw [getT, if_neg (by omega)] at ht
    rw [getR, if_neg (by omega)] at hr
    subst ht
    subst hr
    clear h
    rcases Nat.lt_or_ge n 1 with h1 | h1
    · obtain rfl : n = 0 := by omega
      go_enter Try.func34, Try.ntmps34
      go_wp2
      go_ret2
      exact ⟨rfl, Frm.refl _ _⟩
    · have h4 : 4 < (n : Int) := by omega
      go_enter Try.func34, Try.ntmps34
      go_wp2
      go_ret2
      exact ⟨rfl, Frm.refl _ _⟩
theorem PSetClient_calls {w : World} {b : Nat} {vs cs : List Int} (h : IsMap w b vs cs) (i : Int) (hi : 0 ≤ i) (t r : Int) (ht : 0 ≤ t ∧ t ≤ 4294967295) (hr : 0 ≤ r ∧ r ≤ 4294967295) (ds : List Int) (hd : setC cs i t r = ds) :
    Calls Try.prog 39 #[.pointer (some ⟨b, 0, none⟩), .int .u8 i, .int .u32 t, .int .u32 r] w fun e w' => e = .returned (.tuple #[]) ∧ IsMap w' b vs ds ∧ Frm (· = b) w w' := by
  obtain ⟨n, rfl⟩ := Int.eq_ofNat_of_zero_le hi
  by_cases hn : 1 ≤ n ∧ n ≤ 4
  · have q0 := h.cli (n * 2) (by omega)
    have q1 : w.cell? ⟨b, 64 + n * 2 + 1, none⟩ = _ := h.cli (n * 2 + 1) (by omega)
    have z0 := h.blk.free (64 + n * 2)
    have z1 := h.blk.free (64 + n * 2 + 1)
    rw [setC, if_pos (by omega), Int.toNat_natCast] at hd
    have HM := hid h; have HD := hid hd; have HT := hid ht; have HR := hid hr
    clear h hd hi ht hr
    obtain ⟨h1, h4⟩ := hn
    have h1' : 1 ≤ (n : Int) := by omega
    have h4' : (n : Int) ≤ 4 := by omega
    by_cases ht0 : t = 0
    · subst ht0
      go_enter Try.func39, Try.ntmps39
      go_wp2
      go_end0
      refine ⟨rfl, ?_, ((Frm.refl (· = b) w).setCell _ _ (.inr rfl)).setCell _ _ (.inr rfl)⟩
      rw [← HD.out, if_pos trivial]
      exact (HM.out.setCli (n * 2) (by omega) _ (by omega)).setCli (n * 2 + 1) (by omega) _ (by omega)
    · have qt : (t == 0) = false := beq_eq_false_iff_ne.2 ht0
      go_enter Try.func39, Try.ntmps39
      go_wp2
      go_end0
      refine ⟨rfl, ?_, ((Frm.refl (· = b) w).setCell _ _ (.inr rfl)).setCell _ _ (.inr rfl)⟩
      rw [← HD.out, if_neg ht0]
      exact (HM.out.setCli (n * 2) (by omega) _ HT.out).setCli (n * 2 + 1) (by omega) _ HR.out
  · rw [setC, if_neg (by omega)] at hd
    subst hd
    have HM := hid h; clear h
    rcases Nat.lt_or_ge n 1 with h1 | h1
    · obtain rfl : n = 0 := by omega
      go_enter Try.func39, Try.ntmps39
      go_wp2
      refine bodyPost_ret (results_none rfl _ _ _) rfl ?_
      exact ⟨rfl, HM.out, Frm.refl _ _⟩
    · have h4 : 4 < (n : Int) := by omega
      go_enter Try.func39, Try.ntmps39
      go_wp2
      refine bodyPost_ret (results_none rfl _ _ _) rfl ?_
      exact ⟨rfl, HM.out, Frm.refl _ _⟩
end Go.Proofs.Ytljfbaakgjmmfaa
