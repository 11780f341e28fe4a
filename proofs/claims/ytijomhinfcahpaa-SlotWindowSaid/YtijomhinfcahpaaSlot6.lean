/- The log within its window: entry, Accepted, Prepared, Committed. -/
import Derived.Test.YtijomhinfcahpaaSlot5
namespace Go.Proofs.Ytijomhinfcahpaa
open Go.RowKit Go.ChangeShapes
set_option linter.unusedVariables false
set_option linter.unusedSimpArgs false
set_option maxRecDepth 20000
abbrev TEn : Nat := 35
/-- Is it told? -/
def toldS (low : Int) (σ : Int → Sl) (m : Sl → Bool) (s : Int) : Bool := inW low s && ((σ s).acc.th && m (σ s))
def en0 : Array Value := #[.int .u32 0, .int .u32 0, .int .u8 0, .int .u32 0, .int .u8 0, .int .u8 0, .int .u16 0]
def enV (s : Int) (x : Sd) : Array Value := #[.int .u32 s, .int .u32 x.vw, .int .u8 x.c, .int .u32 x.t, .int .u8 x.k, .int .u8 x.y, .int .u16 x.v]
theorem results_cell2 {fn : Func} {p q : Tmp} {ty : TypeId} (h : fn.results = #[.cell p ty, .tmp q]) (tmps : Array Value) (w : World) (g T : Nat) (cs : List Value) (fs : Array Field) (v : Value) (hp : tmps.getD p undef = .pointer (some ⟨g, 0, none⟩)) (hq : tmps.getD q undef = v) (hb : Blk w g cs T)
    (hu : Try.prog.underlying ty = some (.struct fs)) (hi : (Try.prog.info? ty).map (·.size) = some cs.length) : (results fn tmps).run Try.prog w = .ok (.tuple #[.agg cs.toArray, v]) w := by
  have hp' : tmps[p]?.getD undef = .pointer (some ⟨g, 0, none⟩) := by simpa using hp
  have hq' : tmps[q]?.getD undef = v := by simpa using hq
  simp [results, h, hp', hq', asAddr, run_loadVar_row w g T ty cs.toArray (0, 0) (.struct fs) hb hu rfl (by simpa using hi)]
theorem zeroEn (w : World) : (zeroValue TEn).run Try.prog w = .ok (.agg en0) w := by kernel_rfl
theorem EntryA_none {w : World} {lb mb N : Nat} {low : Int} {g : Int → Option Nat} {σ : Int → Sl} (h : IsLogG w lb mb low N g σ) (s : Int) (hs : 0 ≤ s ∧ s ≤ 4294967295) (hg : g s = none) :
    Calls Try.prog 31 #[.pointer (some ⟨lb, 0, none⟩), .int .u32 s, .func (.func 35) #[] #[]] w fun e w' => e = .returned (.tuple #[.agg #[.int .u32 0, .int .u32 0, .int .u8 0, .int .u32 0, .int .u8 0, .int .u8 0, .int .u16 0], .bool false]) ∧ Frm (fun _ => False) w w' := by
  have HSZ := hid (World.size_alloc w (.cells #[.int .u32 0, .int .u32 0, .int .u8 0, .int .u32 0, .int .u8 0, .int .u8 0, .int .u16 0] TEn))
  have hq := (h.quiet (frm_box w (.cells #[.int .u32 0, .int .u32 0, .int .u8 0, .int .u32 0, .int .u8 0, .int .u8 0, .int .u16 0] TEn)))
  have q1 := hq.blk.cell 1
  simp only [List.getElem?_cons_succ, List.getElem?_cons_zero] at q1
  have HE := hid hq; clear hq
  have HF := hid (frm_box w (.cells #[.int .u32 0, .int .u32 0, .int .u8 0, .int .u32 0, .int .u8 0, .int .u8 0, .int .u16 0] TEn))
  have HS := hid hs
  have HRB := hid (Blk.new w [.int .u32 0, .int .u32 0, .int .u8 0, .int .u32 0, .int .u8 0, .int .u8 0, .int .u16 0] TEn)
  obtain ⟨n, hn, hmp⟩ := HE.out.map
  have q2 := hmp.look_none keyed32 u_map (z_ptr _) (key32 hs) (fOf_none hg) false
  simp only [Bool.false_eq_true, if_false] at q2
  obtain ⟨z, hz⟩ : ∃ z, inW low s = z := ⟨_, rfl⟩
  have HZ := hid hz
  clear h hs hn hmp hg hz
  cases z
  · go_enter Try.func31, Try.ntmps31
    go_wp2_with (first
      | (go_at_call 16; (with_reducible refine (In_calls HE.out s HS.out _ HZ.out).mono ?_); rintro e w' ⟨rfl, rfl⟩; skip))
    refine bodyPost_ret (v := .tuple #[.agg #[.int .u32 0, .int .u32 0, .int .u8 0, .int .u32 0, .int .u8 0, .int .u8 0, .int .u16 0], .bool false]) (by simp [results, Try.results31, go_sem]) rfl ⟨rfl, frm_box _ _⟩
  · go_enter Try.func31, Try.ntmps31
    go_wp2_with (first
      | (go_at_call 16; (with_reducible refine (In_calls HE.out s HS.out _ HZ.out).mono ?_); rintro e w' ⟨rfl, rfl⟩; skip))
    refine bodyPost_ret (v := .tuple #[.agg #[.int .u32 0, .int .u32 0, .int .u8 0, .int .u32 0, .int .u8 0, .int .u8 0, .int .u16 0], .bool false]) (by simp [results, Try.results31, go_sem]) rfl ⟨rfl, frm_box _ _⟩
theorem EntryA_out {w : World} {lb mb N : Nat} {low : Int} {g : Int → Option Nat} {σ : Int → Sl} (h : IsLogG w lb mb low N g σ) (s : Int) (hs : 0 ≤ s ∧ s ≤ 4294967295) {b : Nat} (hg : g s = some b) (hz : inW low s = false) :
    Calls Try.prog 31 #[.pointer (some ⟨lb, 0, none⟩), .int .u32 s, .func (.func 35) #[] #[]] w fun e w' => e = .returned (.tuple #[.agg #[.int .u32 0, .int .u32 0, .int .u8 0, .int .u32 0, .int .u8 0, .int .u8 0, .int .u16 0], .bool false]) ∧ Frm (fun _ => False) w w' := by
  have HSZ := hid (World.size_alloc w (.cells #[.int .u32 0, .int .u32 0, .int .u8 0, .int .u32 0, .int .u8 0, .int .u8 0, .int .u16 0] TEn))
  have hq := (h.quiet (frm_box w (.cells #[.int .u32 0, .int .u32 0, .int .u8 0, .int .u32 0, .int .u8 0, .int .u8 0, .int .u16 0] TEn)))
  have q1 := hq.blk.cell 1
  simp only [List.getElem?_cons_succ, List.getElem?_cons_zero] at q1
  have HE := hid hq; clear hq
  have HF := hid (frm_box w (.cells #[.int .u32 0, .int .u32 0, .int .u8 0, .int .u32 0, .int .u8 0, .int .u8 0, .int .u16 0] TEn))
  have HS := hid hs
  have HRB := hid (Blk.new w [.int .u32 0, .int .u32 0, .int .u8 0, .int .u32 0, .int .u8 0, .int .u8 0, .int .u16 0] TEn)
  obtain ⟨n, hn, hmp⟩ := HE.out.map
  have q2 := hmp.look_some keyed32 u_map (z_ptr _) (key32 hs) (fOf_some hg) false
  simp only [Bool.false_eq_true, if_false] at q2
  have HZ := hid hz
  clear h hs hn hmp hg hz
  go_enter Try.func31, Try.ntmps31
  go_wp2_with (first
    | (go_at_call 16; (with_reducible refine (In_calls HE.out s HS.out _ HZ.out).mono ?_); rintro e w' ⟨rfl, rfl⟩; skip))
  refine bodyPost_ret (v := .tuple #[.agg #[.int .u32 0, .int .u32 0, .int .u8 0, .int .u32 0, .int .u8 0, .int .u8 0, .int .u16 0], .bool false]) (by simp [results, Try.results31, go_sem]) rfl ⟨rfl, frm_box _ _⟩
theorem EntryA_not {w : World} {lb mb N : Nat} {low : Int} {g : Int → Option Nat} {σ : Int → Sl} (h : IsLogG w lb mb low N g σ) (s : Int) (hs : 0 ≤ s ∧ s ≤ 4294967295) {b : Nat} (hg : g s = some b) (hz : inW low s = true) (hth : (σ s).acc.th = false) :
    Calls Try.prog 31 #[.pointer (some ⟨lb, 0, none⟩), .int .u32 s, .func (.func 35) #[] #[]] w fun e w' => e = .returned (.tuple #[.agg #[.int .u32 0, .int .u32 0, .int .u8 0, .int .u32 0, .int .u8 0, .int .u8 0, .int .u16 0], .bool false]) ∧ Frm (fun _ => False) w w' := by
  have HSZ := hid (World.size_alloc w (.cells #[.int .u32 0, .int .u32 0, .int .u8 0, .int .u32 0, .int .u8 0, .int .u8 0, .int .u16 0] TEn))
  have hq := (h.quiet (frm_box w (.cells #[.int .u32 0, .int .u32 0, .int .u8 0, .int .u32 0, .int .u8 0, .int .u8 0, .int .u16 0] TEn)))
  have q1 := hq.blk.cell 1
  simp only [List.getElem?_cons_succ, List.getElem?_cons_zero] at q1
  have HE := hid hq; clear hq
  have HF := hid (frm_box w (.cells #[.int .u32 0, .int .u32 0, .int .u8 0, .int .u32 0, .int .u8 0, .int .u8 0, .int .u16 0] TEn))
  have HS := hid hs
  have HRB := hid (Blk.new w [.int .u32 0, .int .u32 0, .int .u8 0, .int .u32 0, .int .u8 0, .int .u8 0, .int .u16 0] TEn)
  obtain ⟨n, hn, hmp⟩ := HE.out.map
  have q2 := hmp.look_some keyed32 u_map (z_ptr _) (key32 hs) (fOf_some hg) false
  simp only [Bool.false_eq_true, if_false] at q2
  have HSL := hid (HE.out.slot _ _ hg)
  have HVW := hid (h.vwb s)
  have p0 := HSL.out.cell 0
  have p1 := HSL.out.cell 1
  have p2 := HSL.out.cell 2
  have p3 := HSL.out.cell 3
  have p4 := HSL.out.cell 4
  have p5 := HSL.out.cell 5
  have p6 := HSL.out.cell 6
  simp only [slV, sdV, List.cons_append, List.nil_append, List.getElem?_cons_succ, List.getElem?_cons_zero] at p0 p1 p2 p3 p4 p5 p6
  rw [hth] at p0
  clear p1 p2 p3 p4 p5 p6
  have HZ := hid hz
  clear h hs hn hmp hg hz hth
  go_enter Try.func31, Try.ntmps31
  go_wp2_with (first
    | (go_at_call 16; (with_reducible refine (In_calls HE.out s HS.out _ HZ.out).mono ?_); rintro e w' ⟨rfl, rfl⟩; skip))
  refine bodyPost_ret (v := .tuple #[.agg #[.int .u32 0, .int .u32 0, .int .u8 0, .int .u32 0, .int .u8 0, .int .u8 0, .int .u16 0], .bool false]) (by simp [results, Try.results31, go_sem]) rfl ⟨rfl, frm_box _ _⟩
theorem EntryA_yes {w : World} {lb mb N : Nat} {low : Int} {g : Int → Option Nat} {σ : Int → Sl} (h : IsLogG w lb mb low N g σ) (s : Int) (hs : 0 ≤ s ∧ s ≤ 4294967295) {b : Nat} (hg : g s = some b) (hz : inW low s = true) (hth : (σ s).acc.th = true) (hm : (fun _ => true) (σ s) = true) :
    Calls Try.prog 31 #[.pointer (some ⟨lb, 0, none⟩), .int .u32 s, .func (.func 35) #[] #[]] w fun e w' => e = .returned (.tuple #[.agg #[.int .u32 s, .int .u32 (σ s).acc.vw, .int .u8 (σ s).acc.c, .int .u32 (σ s).acc.t, .int .u8 (σ s).acc.k, .int .u8 (σ s).acc.y, .int .u16 (σ s).acc.v], .bool true]) ∧ Frm (fun _ => False) w w' := by
  have HSZ := hid (World.size_alloc w (.cells #[.int .u32 0, .int .u32 0, .int .u8 0, .int .u32 0, .int .u8 0, .int .u8 0, .int .u16 0] TEn))
  have hq := (h.quiet (frm_box w (.cells #[.int .u32 0, .int .u32 0, .int .u8 0, .int .u32 0, .int .u8 0, .int .u8 0, .int .u16 0] TEn)))
  have q1 := hq.blk.cell 1
  simp only [List.getElem?_cons_succ, List.getElem?_cons_zero] at q1
  have HE := hid hq; clear hq
  have HF := hid (frm_box w (.cells #[.int .u32 0, .int .u32 0, .int .u8 0, .int .u32 0, .int .u8 0, .int .u8 0, .int .u16 0] TEn))
  have HS := hid hs
  have HRB := hid (Blk.new w [.int .u32 0, .int .u32 0, .int .u8 0, .int .u32 0, .int .u8 0, .int .u8 0, .int .u16 0] TEn)
  obtain ⟨n, hn, hmp⟩ := HE.out.map
  have q2 := hmp.look_some keyed32 u_map (z_ptr _) (key32 hs) (fOf_some hg) false
  simp only [Bool.false_eq_true, if_false] at q2
  have HSL := hid (HE.out.slot _ _ hg)
  have HVW := hid (h.vwb s)
  have p0 := HSL.out.cell 0
  have p1 := HSL.out.cell 1
  have p2 := HSL.out.cell 2
  have p3 := HSL.out.cell 3
  have p4 := HSL.out.cell 4
  have p5 := HSL.out.cell 5
  have p6 := HSL.out.cell 6
  simp only [slV, sdV, List.cons_append, List.nil_append, List.getElem?_cons_succ, List.getElem?_cons_zero] at p0 p1 p2 p3 p4 p5 p6
  rw [hth] at p0
  have HZ := hid hz
  have HM := hid hm
  clear hm
  clear h hs hn hmp hg hz hth
  go_enter Try.func31, Try.ntmps31
  go_wp2_with (first
    | (go_at_call 16; (with_reducible refine (In_calls HE.out s HS.out _ HZ.out).mono ?_); rintro e w' ⟨rfl, rfl⟩; skip)
    | (go_at_call 35; (with_reducible refine (True_calls _).mono ?_); rintro e w' ⟨rfl, f'⟩; have HF2 := hid (HF.out.trans f'); have HSL2 := hid (HSL.out.frm f' (fun h => h)); have HR := hid (HRB.out.frm f' (fun h => h)); clear f' HF p0 p1 p2 p3 p4 p5 p6; have HF := HF2; clear HF2; have p0 := HSL2.out.cell 0; have p1 := HSL2.out.cell 1; have p2 := HSL2.out.cell 2; have p3 := HSL2.out.cell 3; have p4 := HSL2.out.cell 4; have p5 := HSL2.out.cell 5; have p6 := HSL2.out.cell 6; (simp only [slV, sdV, List.cons_append, List.nil_append, List.getElem?_cons_succ, List.getElem?_cons_zero] at p0 p1 p2 p3 p4 p5 p6); have s0 := HR.out.cell 0; have s1 := HR.out.cell 1; have s2 := HR.out.cell 2; have s3 := HR.out.cell 3; have s4 := HR.out.cell 4; have s5 := HR.out.cell 5; have s6 := HR.out.cell 6; (simp only [List.getElem?_cons_succ, List.getElem?_cons_zero] at s0 s1 s2 s3 s4 s5 s6); have z0 := HR.out.free 0; have z1 := HR.out.free 1; have z2 := HR.out.free 2; have z3 := HR.out.free 3; have z4 := HR.out.free 4; have z5 := HR.out.free 5; have z6 := HR.out.free 6; have hlr := HR.out.lt))
  go_region
  go_wp2
  refine bodyPost_ret (results_cell2 rfl _ _ w.heap.size TEn [.int .u32 s, .int .u32 (σ s).acc.vw, .int .u8 (σ s).acc.c, .int .u32 (σ s).acc.t, .int .u8 (σ s).acc.k, .int .u8 (σ s).acc.y, .int .u16 (σ s).acc.v] _ (.bool true) rfl rfl ((((((((HR.out.setCell 0 _).setCell 1 _).setCell 2 _).setCell 3 _).setCell 4 _).setCell 5 _).setCell 6 _)).drew Try.underlying35 (by kernel_rfl)) rfl ⟨rfl, ((((((((HF.out.setCell _ _ (.inl (Nat.le_refl _))).setCell _ _ (.inl (Nat.le_refl _))).setCell _ _ (.inl (Nat.le_refl _))).setCell _ _ (.inl (Nat.le_refl _))).setCell _ _ (.inl (Nat.le_refl _))).setCell _ _ (.inl (Nat.le_refl _))).setCell _ _ (.inl (Nat.le_refl _)))).drew⟩
theorem EntryP_none {w : World} {lb mb N : Nat} {low : Int} {g : Int → Option Nat} {σ : Int → Sl} (h : IsLogG w lb mb low N g σ) (s : Int) (hs : 0 ≤ s ∧ s ≤ 4294967295) (hg : g s = none) :
    Calls Try.prog 31 #[.pointer (some ⟨lb, 0, none⟩), .int .u32 s, .func (.func 33) #[] #[]] w fun e w' => e = .returned (.tuple #[.agg #[.int .u32 0, .int .u32 0, .int .u8 0, .int .u32 0, .int .u8 0, .int .u8 0, .int .u16 0], .bool false]) ∧ Frm (fun _ => False) w w' := by
  have HSZ := hid (World.size_alloc w (.cells #[.int .u32 0, .int .u32 0, .int .u8 0, .int .u32 0, .int .u8 0, .int .u8 0, .int .u16 0] TEn))
  have hq := (h.quiet (frm_box w (.cells #[.int .u32 0, .int .u32 0, .int .u8 0, .int .u32 0, .int .u8 0, .int .u8 0, .int .u16 0] TEn)))
  have q1 := hq.blk.cell 1
  simp only [List.getElem?_cons_succ, List.getElem?_cons_zero] at q1
  have HE := hid hq; clear hq
  have HF := hid (frm_box w (.cells #[.int .u32 0, .int .u32 0, .int .u8 0, .int .u32 0, .int .u8 0, .int .u8 0, .int .u16 0] TEn))
  have HS := hid hs
  have HRB := hid (Blk.new w [.int .u32 0, .int .u32 0, .int .u8 0, .int .u32 0, .int .u8 0, .int .u8 0, .int .u16 0] TEn)
  obtain ⟨n, hn, hmp⟩ := HE.out.map
  have q2 := hmp.look_none keyed32 u_map (z_ptr _) (key32 hs) (fOf_none hg) false
  simp only [Bool.false_eq_true, if_false] at q2
  obtain ⟨z, hz⟩ : ∃ z, inW low s = z := ⟨_, rfl⟩
  have HZ := hid hz
  clear h hs hn hmp hg hz
  cases z
  · go_enter Try.func31, Try.ntmps31
    go_wp2_with (first
      | (go_at_call 16; (with_reducible refine (In_calls HE.out s HS.out _ HZ.out).mono ?_); rintro e w' ⟨rfl, rfl⟩; skip))
    refine bodyPost_ret (v := .tuple #[.agg #[.int .u32 0, .int .u32 0, .int .u8 0, .int .u32 0, .int .u8 0, .int .u8 0, .int .u16 0], .bool false]) (by simp [results, Try.results31, go_sem]) rfl ⟨rfl, frm_box _ _⟩
  · go_enter Try.func31, Try.ntmps31
    go_wp2_with (first
      | (go_at_call 16; (with_reducible refine (In_calls HE.out s HS.out _ HZ.out).mono ?_); rintro e w' ⟨rfl, rfl⟩; skip))
    refine bodyPost_ret (v := .tuple #[.agg #[.int .u32 0, .int .u32 0, .int .u8 0, .int .u32 0, .int .u8 0, .int .u8 0, .int .u16 0], .bool false]) (by simp [results, Try.results31, go_sem]) rfl ⟨rfl, frm_box _ _⟩
theorem EntryP_out {w : World} {lb mb N : Nat} {low : Int} {g : Int → Option Nat} {σ : Int → Sl} (h : IsLogG w lb mb low N g σ) (s : Int) (hs : 0 ≤ s ∧ s ≤ 4294967295) {b : Nat} (hg : g s = some b) (hz : inW low s = false) :
    Calls Try.prog 31 #[.pointer (some ⟨lb, 0, none⟩), .int .u32 s, .func (.func 33) #[] #[]] w fun e w' => e = .returned (.tuple #[.agg #[.int .u32 0, .int .u32 0, .int .u8 0, .int .u32 0, .int .u8 0, .int .u8 0, .int .u16 0], .bool false]) ∧ Frm (fun _ => False) w w' := by
  have HSZ := hid (World.size_alloc w (.cells #[.int .u32 0, .int .u32 0, .int .u8 0, .int .u32 0, .int .u8 0, .int .u8 0, .int .u16 0] TEn))
  have hq := (h.quiet (frm_box w (.cells #[.int .u32 0, .int .u32 0, .int .u8 0, .int .u32 0, .int .u8 0, .int .u8 0, .int .u16 0] TEn)))
  have q1 := hq.blk.cell 1
  simp only [List.getElem?_cons_succ, List.getElem?_cons_zero] at q1
  have HE := hid hq; clear hq
  have HF := hid (frm_box w (.cells #[.int .u32 0, .int .u32 0, .int .u8 0, .int .u32 0, .int .u8 0, .int .u8 0, .int .u16 0] TEn))
  have HS := hid hs
  have HRB := hid (Blk.new w [.int .u32 0, .int .u32 0, .int .u8 0, .int .u32 0, .int .u8 0, .int .u8 0, .int .u16 0] TEn)
  obtain ⟨n, hn, hmp⟩ := HE.out.map
  have q2 := hmp.look_some keyed32 u_map (z_ptr _) (key32 hs) (fOf_some hg) false
  simp only [Bool.false_eq_true, if_false] at q2
  have HZ := hid hz
  clear h hs hn hmp hg hz
  go_enter Try.func31, Try.ntmps31
  go_wp2_with (first
    | (go_at_call 16; (with_reducible refine (In_calls HE.out s HS.out _ HZ.out).mono ?_); rintro e w' ⟨rfl, rfl⟩; skip))
  refine bodyPost_ret (v := .tuple #[.agg #[.int .u32 0, .int .u32 0, .int .u8 0, .int .u32 0, .int .u8 0, .int .u8 0, .int .u16 0], .bool false]) (by simp [results, Try.results31, go_sem]) rfl ⟨rfl, frm_box _ _⟩
theorem EntryP_not {w : World} {lb mb N : Nat} {low : Int} {g : Int → Option Nat} {σ : Int → Sl} (h : IsLogG w lb mb low N g σ) (s : Int) (hs : 0 ≤ s ∧ s ≤ 4294967295) {b : Nat} (hg : g s = some b) (hz : inW low s = true) (hth : (σ s).acc.th = false) :
    Calls Try.prog 31 #[.pointer (some ⟨lb, 0, none⟩), .int .u32 s, .func (.func 33) #[] #[]] w fun e w' => e = .returned (.tuple #[.agg #[.int .u32 0, .int .u32 0, .int .u8 0, .int .u32 0, .int .u8 0, .int .u8 0, .int .u16 0], .bool false]) ∧ Frm (fun _ => False) w w' := by
  have HSZ := hid (World.size_alloc w (.cells #[.int .u32 0, .int .u32 0, .int .u8 0, .int .u32 0, .int .u8 0, .int .u8 0, .int .u16 0] TEn))
  have hq := (h.quiet (frm_box w (.cells #[.int .u32 0, .int .u32 0, .int .u8 0, .int .u32 0, .int .u8 0, .int .u8 0, .int .u16 0] TEn)))
  have q1 := hq.blk.cell 1
  simp only [List.getElem?_cons_succ, List.getElem?_cons_zero] at q1
  have HE := hid hq; clear hq
  have HF := hid (frm_box w (.cells #[.int .u32 0, .int .u32 0, .int .u8 0, .int .u32 0, .int .u8 0, .int .u8 0, .int .u16 0] TEn))
  have HS := hid hs
  have HRB := hid (Blk.new w [.int .u32 0, .int .u32 0, .int .u8 0, .int .u32 0, .int .u8 0, .int .u8 0, .int .u16 0] TEn)
  obtain ⟨n, hn, hmp⟩ := HE.out.map
  have q2 := hmp.look_some keyed32 u_map (z_ptr _) (key32 hs) (fOf_some hg) false
  simp only [Bool.false_eq_true, if_false] at q2
  have HSL := hid (HE.out.slot _ _ hg)
  have HVW := hid (h.vwb s)
  have p0 := HSL.out.cell 0
  have p1 := HSL.out.cell 1
  have p2 := HSL.out.cell 2
  have p3 := HSL.out.cell 3
  have p4 := HSL.out.cell 4
  have p5 := HSL.out.cell 5
  have p6 := HSL.out.cell 6
  simp only [slV, sdV, List.cons_append, List.nil_append, List.getElem?_cons_succ, List.getElem?_cons_zero] at p0 p1 p2 p3 p4 p5 p6
  rw [hth] at p0
  clear p1 p2 p3 p4 p5 p6
  have HZ := hid hz
  clear h hs hn hmp hg hz hth
  go_enter Try.func31, Try.ntmps31
  go_wp2_with (first
    | (go_at_call 16; (with_reducible refine (In_calls HE.out s HS.out _ HZ.out).mono ?_); rintro e w' ⟨rfl, rfl⟩; skip))
  refine bodyPost_ret (v := .tuple #[.agg #[.int .u32 0, .int .u32 0, .int .u8 0, .int .u32 0, .int .u8 0, .int .u8 0, .int .u16 0], .bool false]) (by simp [results, Try.results31, go_sem]) rfl ⟨rfl, frm_box _ _⟩
theorem EntryP_no {w : World} {lb mb N : Nat} {low : Int} {g : Int → Option Nat} {σ : Int → Sl} (h : IsLogG w lb mb low N g σ) (s : Int) (hs : 0 ≤ s ∧ s ≤ 4294967295) {b : Nat} (hg : g s = some b) (hz : inW low s = true) (hth : (σ s).acc.th = true) (hm : (rdyS) (σ s) = false) :
    Calls Try.prog 31 #[.pointer (some ⟨lb, 0, none⟩), .int .u32 s, .func (.func 33) #[] #[]] w fun e w' => e = .returned (.tuple #[.agg #[.int .u32 0, .int .u32 0, .int .u8 0, .int .u32 0, .int .u8 0, .int .u8 0, .int .u16 0], .bool false]) ∧ Frm (fun _ => False) w w' := by
  have HSZ := hid (World.size_alloc w (.cells #[.int .u32 0, .int .u32 0, .int .u8 0, .int .u32 0, .int .u8 0, .int .u8 0, .int .u16 0] TEn))
  have hq := (h.quiet (frm_box w (.cells #[.int .u32 0, .int .u32 0, .int .u8 0, .int .u32 0, .int .u8 0, .int .u8 0, .int .u16 0] TEn)))
  have q1 := hq.blk.cell 1
  simp only [List.getElem?_cons_succ, List.getElem?_cons_zero] at q1
  have HE := hid hq; clear hq
  have HF := hid (frm_box w (.cells #[.int .u32 0, .int .u32 0, .int .u8 0, .int .u32 0, .int .u8 0, .int .u8 0, .int .u16 0] TEn))
  have HS := hid hs
  have HRB := hid (Blk.new w [.int .u32 0, .int .u32 0, .int .u8 0, .int .u32 0, .int .u8 0, .int .u8 0, .int .u16 0] TEn)
  obtain ⟨n, hn, hmp⟩ := HE.out.map
  have q2 := hmp.look_some keyed32 u_map (z_ptr _) (key32 hs) (fOf_some hg) false
  simp only [Bool.false_eq_true, if_false] at q2
  have HSL := hid (HE.out.slot _ _ hg)
  have HVW := hid (h.vwb s)
  have p0 := HSL.out.cell 0
  have p1 := HSL.out.cell 1
  have p2 := HSL.out.cell 2
  have p3 := HSL.out.cell 3
  have p4 := HSL.out.cell 4
  have p5 := HSL.out.cell 5
  have p6 := HSL.out.cell 6
  simp only [slV, sdV, List.cons_append, List.nil_append, List.getElem?_cons_succ, List.getElem?_cons_zero] at p0 p1 p2 p3 p4 p5 p6
  rw [hth] at p0
  have HZ := hid hz
  have HM := hid hm
  clear hm
  clear h hs hn hmp hg hz hth
  go_enter Try.func31, Try.ntmps31
  go_wp2_with (first
    | (go_at_call 16; (with_reducible refine (In_calls HE.out s HS.out _ HZ.out).mono ?_); rintro e w' ⟨rfl, rfl⟩; skip)
    | (go_at_call 33; (with_reducible refine (Ready_calls HSL.out HVW.out _ HM.out).mono ?_); rintro e w' ⟨rfl, f'⟩; have HF2 := hid (HF.out.trans f'); have HSL2 := hid (HSL.out.frm f' (fun h => h)); have HR := hid (HRB.out.frm f' (fun h => h)); clear f' HF p0 p1 p2 p3 p4 p5 p6; have HF := HF2; clear HF2; have p0 := HSL2.out.cell 0; have p1 := HSL2.out.cell 1; have p2 := HSL2.out.cell 2; have p3 := HSL2.out.cell 3; have p4 := HSL2.out.cell 4; have p5 := HSL2.out.cell 5; have p6 := HSL2.out.cell 6; (simp only [slV, sdV, List.cons_append, List.nil_append, List.getElem?_cons_succ, List.getElem?_cons_zero] at p0 p1 p2 p3 p4 p5 p6); have s0 := HR.out.cell 0; have s1 := HR.out.cell 1; have s2 := HR.out.cell 2; have s3 := HR.out.cell 3; have s4 := HR.out.cell 4; have s5 := HR.out.cell 5; have s6 := HR.out.cell 6; (simp only [List.getElem?_cons_succ, List.getElem?_cons_zero] at s0 s1 s2 s3 s4 s5 s6); have z0 := HR.out.free 0; have z1 := HR.out.free 1; have z2 := HR.out.free 2; have z3 := HR.out.free 3; have z4 := HR.out.free 4; have z5 := HR.out.free 5; have z6 := HR.out.free 6; have hlr := HR.out.lt))
  refine bodyPost_ret (results_cell2 rfl _ _ w.heap.size TEn [.int .u32 0, .int .u32 0, .int .u8 0, .int .u32 0, .int .u8 0, .int .u8 0, .int .u16 0] _ (.bool false) rfl rfl (((((((HR.out.setCell 0 _).setCell 1 _).setCell 2 _).setCell 3 _).setCell 4 _).setCell 5 _).setCell 6 _) Try.underlying35 (by kernel_rfl)) rfl ⟨rfl, (((((((HF.out.setCell _ _ (.inl (Nat.le_refl _))).setCell _ _ (.inl (Nat.le_refl _))).setCell _ _ (.inl (Nat.le_refl _))).setCell _ _ (.inl (Nat.le_refl _))).setCell _ _ (.inl (Nat.le_refl _))).setCell _ _ (.inl (Nat.le_refl _))).setCell _ _ (.inl (Nat.le_refl _)))⟩
theorem EntryP_yes {w : World} {lb mb N : Nat} {low : Int} {g : Int → Option Nat} {σ : Int → Sl} (h : IsLogG w lb mb low N g σ) (s : Int) (hs : 0 ≤ s ∧ s ≤ 4294967295) {b : Nat} (hg : g s = some b) (hz : inW low s = true) (hth : (σ s).acc.th = true) (hm : (rdyS) (σ s) = true) :
    Calls Try.prog 31 #[.pointer (some ⟨lb, 0, none⟩), .int .u32 s, .func (.func 33) #[] #[]] w fun e w' => e = .returned (.tuple #[.agg #[.int .u32 s, .int .u32 (σ s).acc.vw, .int .u8 (σ s).acc.c, .int .u32 (σ s).acc.t, .int .u8 (σ s).acc.k, .int .u8 (σ s).acc.y, .int .u16 (σ s).acc.v], .bool true]) ∧ Frm (fun _ => False) w w' := by
  have HSZ := hid (World.size_alloc w (.cells #[.int .u32 0, .int .u32 0, .int .u8 0, .int .u32 0, .int .u8 0, .int .u8 0, .int .u16 0] TEn))
  have hq := (h.quiet (frm_box w (.cells #[.int .u32 0, .int .u32 0, .int .u8 0, .int .u32 0, .int .u8 0, .int .u8 0, .int .u16 0] TEn)))
  have q1 := hq.blk.cell 1
  simp only [List.getElem?_cons_succ, List.getElem?_cons_zero] at q1
  have HE := hid hq; clear hq
  have HF := hid (frm_box w (.cells #[.int .u32 0, .int .u32 0, .int .u8 0, .int .u32 0, .int .u8 0, .int .u8 0, .int .u16 0] TEn))
  have HS := hid hs
  have HRB := hid (Blk.new w [.int .u32 0, .int .u32 0, .int .u8 0, .int .u32 0, .int .u8 0, .int .u8 0, .int .u16 0] TEn)
  obtain ⟨n, hn, hmp⟩ := HE.out.map
  have q2 := hmp.look_some keyed32 u_map (z_ptr _) (key32 hs) (fOf_some hg) false
  simp only [Bool.false_eq_true, if_false] at q2
  have HSL := hid (HE.out.slot _ _ hg)
  have HVW := hid (h.vwb s)
  have p0 := HSL.out.cell 0
  have p1 := HSL.out.cell 1
  have p2 := HSL.out.cell 2
  have p3 := HSL.out.cell 3
  have p4 := HSL.out.cell 4
  have p5 := HSL.out.cell 5
  have p6 := HSL.out.cell 6
  simp only [slV, sdV, List.cons_append, List.nil_append, List.getElem?_cons_succ, List.getElem?_cons_zero] at p0 p1 p2 p3 p4 p5 p6
  rw [hth] at p0
  have HZ := hid hz
  have HM := hid hm
  clear hm
  clear h hs hn hmp hg hz hth
  go_enter Try.func31, Try.ntmps31
  go_wp2_with (first
    | (go_at_call 16; (with_reducible refine (In_calls HE.out s HS.out _ HZ.out).mono ?_); rintro e w' ⟨rfl, rfl⟩; skip)
    | (go_at_call 33; (with_reducible refine (Ready_calls HSL.out HVW.out _ HM.out).mono ?_); rintro e w' ⟨rfl, f'⟩; have HF2 := hid (HF.out.trans f'); have HSL2 := hid (HSL.out.frm f' (fun h => h)); have HR := hid (HRB.out.frm f' (fun h => h)); clear f' HF p0 p1 p2 p3 p4 p5 p6; have HF := HF2; clear HF2; have p0 := HSL2.out.cell 0; have p1 := HSL2.out.cell 1; have p2 := HSL2.out.cell 2; have p3 := HSL2.out.cell 3; have p4 := HSL2.out.cell 4; have p5 := HSL2.out.cell 5; have p6 := HSL2.out.cell 6; (simp only [slV, sdV, List.cons_append, List.nil_append, List.getElem?_cons_succ, List.getElem?_cons_zero] at p0 p1 p2 p3 p4 p5 p6); have s0 := HR.out.cell 0; have s1 := HR.out.cell 1; have s2 := HR.out.cell 2; have s3 := HR.out.cell 3; have s4 := HR.out.cell 4; have s5 := HR.out.cell 5; have s6 := HR.out.cell 6; (simp only [List.getElem?_cons_succ, List.getElem?_cons_zero] at s0 s1 s2 s3 s4 s5 s6); have z0 := HR.out.free 0; have z1 := HR.out.free 1; have z2 := HR.out.free 2; have z3 := HR.out.free 3; have z4 := HR.out.free 4; have z5 := HR.out.free 5; have z6 := HR.out.free 6; have hlr := HR.out.lt))
  go_region
  go_wp2
  refine bodyPost_ret (results_cell2 rfl _ _ w.heap.size TEn [.int .u32 s, .int .u32 (σ s).acc.vw, .int .u8 (σ s).acc.c, .int .u32 (σ s).acc.t, .int .u8 (σ s).acc.k, .int .u8 (σ s).acc.y, .int .u16 (σ s).acc.v] _ (.bool true) rfl rfl ((((((((HR.out.setCell 0 _).setCell 1 _).setCell 2 _).setCell 3 _).setCell 4 _).setCell 5 _).setCell 6 _)).drew Try.underlying35 (by kernel_rfl)) rfl ⟨rfl, ((((((((HF.out.setCell _ _ (.inl (Nat.le_refl _))).setCell _ _ (.inl (Nat.le_refl _))).setCell _ _ (.inl (Nat.le_refl _))).setCell _ _ (.inl (Nat.le_refl _))).setCell _ _ (.inl (Nat.le_refl _))).setCell _ _ (.inl (Nat.le_refl _))).setCell _ _ (.inl (Nat.le_refl _)))).drew⟩
theorem EntryC_none {w : World} {lb mb N : Nat} {low : Int} {g : Int → Option Nat} {σ : Int → Sl} (h : IsLogG w lb mb low N g σ) (s : Int) (hs : 0 ≤ s ∧ s ≤ 4294967295) (hg : g s = none) :
    Calls Try.prog 31 #[.pointer (some ⟨lb, 0, none⟩), .int .u32 s, .func (.func 32) #[] #[]] w fun e w' => e = .returned (.tuple #[.agg #[.int .u32 0, .int .u32 0, .int .u8 0, .int .u32 0, .int .u8 0, .int .u8 0, .int .u16 0], .bool false]) ∧ Frm (fun _ => False) w w' := by
  have HSZ := hid (World.size_alloc w (.cells #[.int .u32 0, .int .u32 0, .int .u8 0, .int .u32 0, .int .u8 0, .int .u8 0, .int .u16 0] TEn))
  have hq := (h.quiet (frm_box w (.cells #[.int .u32 0, .int .u32 0, .int .u8 0, .int .u32 0, .int .u8 0, .int .u8 0, .int .u16 0] TEn)))
  have q1 := hq.blk.cell 1
  simp only [List.getElem?_cons_succ, List.getElem?_cons_zero] at q1
  have HE := hid hq; clear hq
  have HF := hid (frm_box w (.cells #[.int .u32 0, .int .u32 0, .int .u8 0, .int .u32 0, .int .u8 0, .int .u8 0, .int .u16 0] TEn))
  have HS := hid hs
  have HRB := hid (Blk.new w [.int .u32 0, .int .u32 0, .int .u8 0, .int .u32 0, .int .u8 0, .int .u8 0, .int .u16 0] TEn)
  obtain ⟨n, hn, hmp⟩ := HE.out.map
  have q2 := hmp.look_none keyed32 u_map (z_ptr _) (key32 hs) (fOf_none hg) false
  simp only [Bool.false_eq_true, if_false] at q2
  obtain ⟨z, hz⟩ : ∃ z, inW low s = z := ⟨_, rfl⟩
  have HZ := hid hz
  clear h hs hn hmp hg hz
  cases z
  · go_enter Try.func31, Try.ntmps31
    go_wp2_with (first
      | (go_at_call 16; (with_reducible refine (In_calls HE.out s HS.out _ HZ.out).mono ?_); rintro e w' ⟨rfl, rfl⟩; skip))
    refine bodyPost_ret (v := .tuple #[.agg #[.int .u32 0, .int .u32 0, .int .u8 0, .int .u32 0, .int .u8 0, .int .u8 0, .int .u16 0], .bool false]) (by simp [results, Try.results31, go_sem]) rfl ⟨rfl, frm_box _ _⟩
  · go_enter Try.func31, Try.ntmps31
    go_wp2_with (first
      | (go_at_call 16; (with_reducible refine (In_calls HE.out s HS.out _ HZ.out).mono ?_); rintro e w' ⟨rfl, rfl⟩; skip))
    refine bodyPost_ret (v := .tuple #[.agg #[.int .u32 0, .int .u32 0, .int .u8 0, .int .u32 0, .int .u8 0, .int .u8 0, .int .u16 0], .bool false]) (by simp [results, Try.results31, go_sem]) rfl ⟨rfl, frm_box _ _⟩
theorem EntryC_out {w : World} {lb mb N : Nat} {low : Int} {g : Int → Option Nat} {σ : Int → Sl} (h : IsLogG w lb mb low N g σ) (s : Int) (hs : 0 ≤ s ∧ s ≤ 4294967295) {b : Nat} (hg : g s = some b) (hz : inW low s = false) :
    Calls Try.prog 31 #[.pointer (some ⟨lb, 0, none⟩), .int .u32 s, .func (.func 32) #[] #[]] w fun e w' => e = .returned (.tuple #[.agg #[.int .u32 0, .int .u32 0, .int .u8 0, .int .u32 0, .int .u8 0, .int .u8 0, .int .u16 0], .bool false]) ∧ Frm (fun _ => False) w w' := by
  have HSZ := hid (World.size_alloc w (.cells #[.int .u32 0, .int .u32 0, .int .u8 0, .int .u32 0, .int .u8 0, .int .u8 0, .int .u16 0] TEn))
  have hq := (h.quiet (frm_box w (.cells #[.int .u32 0, .int .u32 0, .int .u8 0, .int .u32 0, .int .u8 0, .int .u8 0, .int .u16 0] TEn)))
  have q1 := hq.blk.cell 1
  simp only [List.getElem?_cons_succ, List.getElem?_cons_zero] at q1
  have HE := hid hq; clear hq
  have HF := hid (frm_box w (.cells #[.int .u32 0, .int .u32 0, .int .u8 0, .int .u32 0, .int .u8 0, .int .u8 0, .int .u16 0] TEn))
  have HS := hid hs
  have HRB := hid (Blk.new w [.int .u32 0, .int .u32 0, .int .u8 0, .int .u32 0, .int .u8 0, .int .u8 0, .int .u16 0] TEn)
  obtain ⟨n, hn, hmp⟩ := HE.out.map
  have q2 := hmp.look_some keyed32 u_map (z_ptr _) (key32 hs) (fOf_some hg) false
  simp only [Bool.false_eq_true, if_false] at q2
  have HZ := hid hz
  clear h hs hn hmp hg hz
  go_enter Try.func31, Try.ntmps31
  go_wp2_with (first
    | (go_at_call 16; (with_reducible refine (In_calls HE.out s HS.out _ HZ.out).mono ?_); rintro e w' ⟨rfl, rfl⟩; skip))
  refine bodyPost_ret (v := .tuple #[.agg #[.int .u32 0, .int .u32 0, .int .u8 0, .int .u32 0, .int .u8 0, .int .u8 0, .int .u16 0], .bool false]) (by simp [results, Try.results31, go_sem]) rfl ⟨rfl, frm_box _ _⟩
theorem EntryC_not {w : World} {lb mb N : Nat} {low : Int} {g : Int → Option Nat} {σ : Int → Sl} (h : IsLogG w lb mb low N g σ) (s : Int) (hs : 0 ≤ s ∧ s ≤ 4294967295) {b : Nat} (hg : g s = some b) (hz : inW low s = true) (hth : (σ s).acc.th = false) :
    Calls Try.prog 31 #[.pointer (some ⟨lb, 0, none⟩), .int .u32 s, .func (.func 32) #[] #[]] w fun e w' => e = .returned (.tuple #[.agg #[.int .u32 0, .int .u32 0, .int .u8 0, .int .u32 0, .int .u8 0, .int .u8 0, .int .u16 0], .bool false]) ∧ Frm (fun _ => False) w w' := by
  have HSZ := hid (World.size_alloc w (.cells #[.int .u32 0, .int .u32 0, .int .u8 0, .int .u32 0, .int .u8 0, .int .u8 0, .int .u16 0] TEn))
  have hq := (h.quiet (frm_box w (.cells #[.int .u32 0, .int .u32 0, .int .u8 0, .int .u32 0, .int .u8 0, .int .u8 0, .int .u16 0] TEn)))
  have q1 := hq.blk.cell 1
  simp only [List.getElem?_cons_succ, List.getElem?_cons_zero] at q1
  have HE := hid hq; clear hq
  have HF := hid (frm_box w (.cells #[.int .u32 0, .int .u32 0, .int .u8 0, .int .u32 0, .int .u8 0, .int .u8 0, .int .u16 0] TEn))
  have HS := hid hs
  have HRB := hid (Blk.new w [.int .u32 0, .int .u32 0, .int .u8 0, .int .u32 0, .int .u8 0, .int .u8 0, .int .u16 0] TEn)
  obtain ⟨n, hn, hmp⟩ := HE.out.map
  have q2 := hmp.look_some keyed32 u_map (z_ptr _) (key32 hs) (fOf_some hg) false
  simp only [Bool.false_eq_true, if_false] at q2
  have HSL := hid (HE.out.slot _ _ hg)
  have HVW := hid (h.vwb s)
  have p0 := HSL.out.cell 0
  have p1 := HSL.out.cell 1
  have p2 := HSL.out.cell 2
  have p3 := HSL.out.cell 3
  have p4 := HSL.out.cell 4
  have p5 := HSL.out.cell 5
  have p6 := HSL.out.cell 6
  simp only [slV, sdV, List.cons_append, List.nil_append, List.getElem?_cons_succ, List.getElem?_cons_zero] at p0 p1 p2 p3 p4 p5 p6
  rw [hth] at p0
  clear p1 p2 p3 p4 p5 p6
  have HZ := hid hz
  clear h hs hn hmp hg hz hth
  go_enter Try.func31, Try.ntmps31
  go_wp2_with (first
    | (go_at_call 16; (with_reducible refine (In_calls HE.out s HS.out _ HZ.out).mono ?_); rintro e w' ⟨rfl, rfl⟩; skip))
  refine bodyPost_ret (v := .tuple #[.agg #[.int .u32 0, .int .u32 0, .int .u8 0, .int .u32 0, .int .u8 0, .int .u8 0, .int .u16 0], .bool false]) (by simp [results, Try.results31, go_sem]) rfl ⟨rfl, frm_box _ _⟩
theorem EntryC_no {w : World} {lb mb N : Nat} {low : Int} {g : Int → Option Nat} {σ : Int → Sl} (h : IsLogG w lb mb low N g σ) (s : Int) (hs : 0 ≤ s ∧ s ≤ 4294967295) {b : Nat} (hg : g s = some b) (hz : inW low s = true) (hth : (σ s).acc.th = true) (hm : (comS) (σ s) = false) :
    Calls Try.prog 31 #[.pointer (some ⟨lb, 0, none⟩), .int .u32 s, .func (.func 32) #[] #[]] w fun e w' => e = .returned (.tuple #[.agg #[.int .u32 0, .int .u32 0, .int .u8 0, .int .u32 0, .int .u8 0, .int .u8 0, .int .u16 0], .bool false]) ∧ Frm (fun _ => False) w w' := by
  have HSZ := hid (World.size_alloc w (.cells #[.int .u32 0, .int .u32 0, .int .u8 0, .int .u32 0, .int .u8 0, .int .u8 0, .int .u16 0] TEn))
  have hq := (h.quiet (frm_box w (.cells #[.int .u32 0, .int .u32 0, .int .u8 0, .int .u32 0, .int .u8 0, .int .u8 0, .int .u16 0] TEn)))
  have q1 := hq.blk.cell 1
  simp only [List.getElem?_cons_succ, List.getElem?_cons_zero] at q1
  have HE := hid hq; clear hq
  have HF := hid (frm_box w (.cells #[.int .u32 0, .int .u32 0, .int .u8 0, .int .u32 0, .int .u8 0, .int .u8 0, .int .u16 0] TEn))
  have HS := hid hs
  have HRB := hid (Blk.new w [.int .u32 0, .int .u32 0, .int .u8 0, .int .u32 0, .int .u8 0, .int .u8 0, .int .u16 0] TEn)
  obtain ⟨n, hn, hmp⟩ := HE.out.map
  have q2 := hmp.look_some keyed32 u_map (z_ptr _) (key32 hs) (fOf_some hg) false
  simp only [Bool.false_eq_true, if_false] at q2
  have HSL := hid (HE.out.slot _ _ hg)
  have HVW := hid (h.vwb s)
  have p0 := HSL.out.cell 0
  have p1 := HSL.out.cell 1
  have p2 := HSL.out.cell 2
  have p3 := HSL.out.cell 3
  have p4 := HSL.out.cell 4
  have p5 := HSL.out.cell 5
  have p6 := HSL.out.cell 6
  simp only [slV, sdV, List.cons_append, List.nil_append, List.getElem?_cons_succ, List.getElem?_cons_zero] at p0 p1 p2 p3 p4 p5 p6
  rw [hth] at p0
  have HZ := hid hz
  have HM := hid hm
  clear hm
  clear h hs hn hmp hg hz hth
  go_enter Try.func31, Try.ntmps31
  go_wp2_with (first
    | (go_at_call 16; (with_reducible refine (In_calls HE.out s HS.out _ HZ.out).mono ?_); rintro e w' ⟨rfl, rfl⟩; skip)
    | (go_at_call 32; (with_reducible refine (Com_calls HSL.out HVW.out _ HM.out).mono ?_); rintro e w' ⟨rfl, f'⟩; have HF2 := hid (HF.out.trans f'); have HSL2 := hid (HSL.out.frm f' (fun h => h)); have HR := hid (HRB.out.frm f' (fun h => h)); clear f' HF p0 p1 p2 p3 p4 p5 p6; have HF := HF2; clear HF2; have p0 := HSL2.out.cell 0; have p1 := HSL2.out.cell 1; have p2 := HSL2.out.cell 2; have p3 := HSL2.out.cell 3; have p4 := HSL2.out.cell 4; have p5 := HSL2.out.cell 5; have p6 := HSL2.out.cell 6; (simp only [slV, sdV, List.cons_append, List.nil_append, List.getElem?_cons_succ, List.getElem?_cons_zero] at p0 p1 p2 p3 p4 p5 p6); have s0 := HR.out.cell 0; have s1 := HR.out.cell 1; have s2 := HR.out.cell 2; have s3 := HR.out.cell 3; have s4 := HR.out.cell 4; have s5 := HR.out.cell 5; have s6 := HR.out.cell 6; (simp only [List.getElem?_cons_succ, List.getElem?_cons_zero] at s0 s1 s2 s3 s4 s5 s6); have z0 := HR.out.free 0; have z1 := HR.out.free 1; have z2 := HR.out.free 2; have z3 := HR.out.free 3; have z4 := HR.out.free 4; have z5 := HR.out.free 5; have z6 := HR.out.free 6; have hlr := HR.out.lt))
  refine bodyPost_ret (results_cell2 rfl _ _ w.heap.size TEn [.int .u32 0, .int .u32 0, .int .u8 0, .int .u32 0, .int .u8 0, .int .u8 0, .int .u16 0] _ (.bool false) rfl rfl (((((((HR.out.setCell 0 _).setCell 1 _).setCell 2 _).setCell 3 _).setCell 4 _).setCell 5 _).setCell 6 _) Try.underlying35 (by kernel_rfl)) rfl ⟨rfl, (((((((HF.out.setCell _ _ (.inl (Nat.le_refl _))).setCell _ _ (.inl (Nat.le_refl _))).setCell _ _ (.inl (Nat.le_refl _))).setCell _ _ (.inl (Nat.le_refl _))).setCell _ _ (.inl (Nat.le_refl _))).setCell _ _ (.inl (Nat.le_refl _))).setCell _ _ (.inl (Nat.le_refl _)))⟩
theorem EntryC_yes {w : World} {lb mb N : Nat} {low : Int} {g : Int → Option Nat} {σ : Int → Sl} (h : IsLogG w lb mb low N g σ) (s : Int) (hs : 0 ≤ s ∧ s ≤ 4294967295) {b : Nat} (hg : g s = some b) (hz : inW low s = true) (hth : (σ s).acc.th = true) (hm : (comS) (σ s) = true) :
    Calls Try.prog 31 #[.pointer (some ⟨lb, 0, none⟩), .int .u32 s, .func (.func 32) #[] #[]] w fun e w' => e = .returned (.tuple #[.agg #[.int .u32 s, .int .u32 (σ s).acc.vw, .int .u8 (σ s).acc.c, .int .u32 (σ s).acc.t, .int .u8 (σ s).acc.k, .int .u8 (σ s).acc.y, .int .u16 (σ s).acc.v], .bool true]) ∧ Frm (fun _ => False) w w' := by
  have HSZ := hid (World.size_alloc w (.cells #[.int .u32 0, .int .u32 0, .int .u8 0, .int .u32 0, .int .u8 0, .int .u8 0, .int .u16 0] TEn))
  have hq := (h.quiet (frm_box w (.cells #[.int .u32 0, .int .u32 0, .int .u8 0, .int .u32 0, .int .u8 0, .int .u8 0, .int .u16 0] TEn)))
  have q1 := hq.blk.cell 1
  simp only [List.getElem?_cons_succ, List.getElem?_cons_zero] at q1
  have HE := hid hq; clear hq
  have HF := hid (frm_box w (.cells #[.int .u32 0, .int .u32 0, .int .u8 0, .int .u32 0, .int .u8 0, .int .u8 0, .int .u16 0] TEn))
  have HS := hid hs
  have HRB := hid (Blk.new w [.int .u32 0, .int .u32 0, .int .u8 0, .int .u32 0, .int .u8 0, .int .u8 0, .int .u16 0] TEn)
  obtain ⟨n, hn, hmp⟩ := HE.out.map
  have q2 := hmp.look_some keyed32 u_map (z_ptr _) (key32 hs) (fOf_some hg) false
  simp only [Bool.false_eq_true, if_false] at q2
  have HSL := hid (HE.out.slot _ _ hg)
  have HVW := hid (h.vwb s)
  have p0 := HSL.out.cell 0
  have p1 := HSL.out.cell 1
  have p2 := HSL.out.cell 2
  have p3 := HSL.out.cell 3
  have p4 := HSL.out.cell 4
  have p5 := HSL.out.cell 5
  have p6 := HSL.out.cell 6
  simp only [slV, sdV, List.cons_append, List.nil_append, List.getElem?_cons_succ, List.getElem?_cons_zero] at p0 p1 p2 p3 p4 p5 p6
  rw [hth] at p0
  have HZ := hid hz
  have HM := hid hm
  clear hm
  clear h hs hn hmp hg hz hth
  go_enter Try.func31, Try.ntmps31
  go_wp2_with (first
    | (go_at_call 16; (with_reducible refine (In_calls HE.out s HS.out _ HZ.out).mono ?_); rintro e w' ⟨rfl, rfl⟩; skip)
    | (go_at_call 32; (with_reducible refine (Com_calls HSL.out HVW.out _ HM.out).mono ?_); rintro e w' ⟨rfl, f'⟩; have HF2 := hid (HF.out.trans f'); have HSL2 := hid (HSL.out.frm f' (fun h => h)); have HR := hid (HRB.out.frm f' (fun h => h)); clear f' HF p0 p1 p2 p3 p4 p5 p6; have HF := HF2; clear HF2; have p0 := HSL2.out.cell 0; have p1 := HSL2.out.cell 1; have p2 := HSL2.out.cell 2; have p3 := HSL2.out.cell 3; have p4 := HSL2.out.cell 4; have p5 := HSL2.out.cell 5; have p6 := HSL2.out.cell 6; (simp only [slV, sdV, List.cons_append, List.nil_append, List.getElem?_cons_succ, List.getElem?_cons_zero] at p0 p1 p2 p3 p4 p5 p6); have s0 := HR.out.cell 0; have s1 := HR.out.cell 1; have s2 := HR.out.cell 2; have s3 := HR.out.cell 3; have s4 := HR.out.cell 4; have s5 := HR.out.cell 5; have s6 := HR.out.cell 6; (simp only [List.getElem?_cons_succ, List.getElem?_cons_zero] at s0 s1 s2 s3 s4 s5 s6); have z0 := HR.out.free 0; have z1 := HR.out.free 1; have z2 := HR.out.free 2; have z3 := HR.out.free 3; have z4 := HR.out.free 4; have z5 := HR.out.free 5; have z6 := HR.out.free 6; have hlr := HR.out.lt))
  go_region
  go_wp2
  refine bodyPost_ret (results_cell2 rfl _ _ w.heap.size TEn [.int .u32 s, .int .u32 (σ s).acc.vw, .int .u8 (σ s).acc.c, .int .u32 (σ s).acc.t, .int .u8 (σ s).acc.k, .int .u8 (σ s).acc.y, .int .u16 (σ s).acc.v] _ (.bool true) rfl rfl ((((((((HR.out.setCell 0 _).setCell 1 _).setCell 2 _).setCell 3 _).setCell 4 _).setCell 5 _).setCell 6 _)).drew Try.underlying35 (by kernel_rfl)) rfl ⟨rfl, ((((((((HF.out.setCell _ _ (.inl (Nat.le_refl _))).setCell _ _ (.inl (Nat.le_refl _))).setCell _ _ (.inl (Nat.le_refl _))).setCell _ _ (.inl (Nat.le_refl _))).setCell _ _ (.inl (Nat.le_refl _))).setCell _ _ (.inl (Nat.le_refl _))).setCell _ _ (.inl (Nat.le_refl _)))).drew⟩
theorem EntryA_false {w : World} {lb mb N : Nat} {low : Int} {g : Int → Option Nat} {σ : Int → Sl} (h : IsLogG w lb mb low N g σ) (s : Int) (hs : 0 ≤ s ∧ s ≤ 4294967295) (hz : toldS low σ (fun _ => true) s = false) :
    Calls Try.prog 31 #[.pointer (some ⟨lb, 0, none⟩), .int .u32 s, .func (.func 35) #[] #[]] w fun e w' => e = .returned (.tuple #[.agg #[.int .u32 0, .int .u32 0, .int .u8 0, .int .u32 0, .int .u8 0, .int .u8 0, .int .u16 0], .bool false]) ∧ Frm (fun _ => False) w w' := by
  cases hg : g s with
  | none => exact EntryA_none h s hs hg
  | some b =>
    cases hi : inW low s with
    | false => exact EntryA_out h s hs hg hi
    | true =>
      cases ht : (σ s).acc.th with
      | false => exact EntryA_not h s hs hg hi ht
      | true => (unfold toldS at hz; rw [hi, ht] at hz; cases hz)
theorem EntryA_true {w : World} {lb mb N : Nat} {low : Int} {g : Int → Option Nat} {σ : Int → Sl} (h : IsLogG w lb mb low N g σ) (s : Int) (hs : 0 ≤ s ∧ s ≤ 4294967295) (hz : toldS low σ (fun _ => true) s = true) :
    Calls Try.prog 31 #[.pointer (some ⟨lb, 0, none⟩), .int .u32 s, .func (.func 35) #[] #[]] w fun e w' => e = .returned (.tuple #[.agg #[.int .u32 s, .int .u32 (σ s).acc.vw, .int .u8 (σ s).acc.c, .int .u32 (σ s).acc.t, .int .u8 (σ s).acc.k, .int .u8 (σ s).acc.y, .int .u16 (σ s).acc.v], .bool true]) ∧ Frm (fun _ => False) w w' := by
  unfold toldS at hz
  rw [Bool.and_eq_true, Bool.and_eq_true] at hz
  obtain ⟨hi, ht, hm⟩ := hz
  cases hg : g s with
  | none => rw [h.none s hg] at ht; cases ht
  | some b => exact EntryA_yes h s hs hg hi ht hm
theorem Accepted_false {w : World} {lb mb N : Nat} {low : Int} {g : Int → Option Nat} {σ : Int → Sl} (h : IsLogG w lb mb low N g σ) (s : Int) (hs : 0 ≤ s ∧ s ≤ 4294967295) (hz : toldS low σ (fun _ => true) s = false) :
    Calls Try.prog 17 #[.pointer (some ⟨lb, 0, none⟩), .int .u32 s] w fun e w' => e = .returned (.tuple #[.agg #[.int .u32 0, .int .u32 0, .int .u8 0, .int .u32 0, .int .u8 0, .int .u8 0, .int .u16 0], .bool false]) ∧ Frm (fun _ => False) w w' := by
  have HE := hid (h.quiet (frm_box w (.cells #[.int .u32 0, .int .u32 0, .int .u8 0, .int .u32 0, .int .u8 0, .int .u8 0, .int .u16 0] TEn)))
  have HS := hid hs; have HZ := hid hz
  have HRB := hid (Blk.new w [.int .u32 0, .int .u32 0, .int .u8 0, .int .u32 0, .int .u8 0, .int .u8 0, .int .u16 0] TEn)
  clear h hs hz
  go_enter Try.func17, Try.ntmps17
  go_wp2_with (first
    | (go_at_call 31; (with_reducible refine (EntryA_false HE.out s HS.out HZ.out).mono ?_); rintro e w' ⟨rfl, f'⟩; (try unfold en0); have HR := hid (HRB.out.frm f' (fun h => h)); have HF := hid ((frm_box w _).trans f'); clear f'; have s0 := HR.out.cell 0; have s1 := HR.out.cell 1; have s2 := HR.out.cell 2; have s3 := HR.out.cell 3; have s4 := HR.out.cell 4; have s5 := HR.out.cell 5; have s6 := HR.out.cell 6; (simp only [List.getElem?_cons_succ, List.getElem?_cons_zero] at s0 s1 s2 s3 s4 s5 s6); have z0 := HR.out.free 0; have z1 := HR.out.free 1; have z2 := HR.out.free 2; have z3 := HR.out.free 3; have z4 := HR.out.free 4; have z5 := HR.out.free 5; have z6 := HR.out.free 6; have hlr := HR.out.lt))
  refine bodyPost_ret (results_cell2 rfl _ _ w.heap.size TEn [.int .u32 0, .int .u32 0, .int .u8 0, .int .u32 0, .int .u8 0, .int .u8 0, .int .u16 0] _ (.bool false) rfl rfl (((((((HR.out.setCell 0 _).setCell 1 _).setCell 2 _).setCell 3 _).setCell 4 _).setCell 5 _).setCell 6 _) Try.underlying35 (by kernel_rfl)) rfl ⟨rfl, (((((((HF.out.setCell _ _ (.inl (Nat.le_refl _))).setCell _ _ (.inl (Nat.le_refl _))).setCell _ _ (.inl (Nat.le_refl _))).setCell _ _ (.inl (Nat.le_refl _))).setCell _ _ (.inl (Nat.le_refl _))).setCell _ _ (.inl (Nat.le_refl _))).setCell _ _ (.inl (Nat.le_refl _)))⟩
theorem Accepted_true {w : World} {lb mb N : Nat} {low : Int} {g : Int → Option Nat} {σ : Int → Sl} (h : IsLogG w lb mb low N g σ) (s : Int) (hs : 0 ≤ s ∧ s ≤ 4294967295) (hz : toldS low σ (fun _ => true) s = true) :
    Calls Try.prog 17 #[.pointer (some ⟨lb, 0, none⟩), .int .u32 s] w fun e w' => e = .returned (.tuple #[.agg #[.int .u32 s, .int .u32 (σ s).acc.vw, .int .u8 (σ s).acc.c, .int .u32 (σ s).acc.t, .int .u8 (σ s).acc.k, .int .u8 (σ s).acc.y, .int .u16 (σ s).acc.v], .bool true]) ∧ Frm (fun _ => False) w w' := by
  have HE := hid (h.quiet (frm_box w (.cells #[.int .u32 0, .int .u32 0, .int .u8 0, .int .u32 0, .int .u8 0, .int .u8 0, .int .u16 0] TEn)))
  have HS := hid hs; have HZ := hid hz
  have HRB := hid (Blk.new w [.int .u32 0, .int .u32 0, .int .u8 0, .int .u32 0, .int .u8 0, .int .u8 0, .int .u16 0] TEn)
  clear h hs hz
  go_enter Try.func17, Try.ntmps17
  go_wp2_with (first
    | (go_at_call 31; (with_reducible refine (EntryA_true HE.out s HS.out HZ.out).mono ?_); rintro e w' ⟨rfl, f'⟩; (try unfold en0); have HR := hid (HRB.out.frm f' (fun h => h)); have HF := hid ((frm_box w _).trans f'); clear f'; have s0 := HR.out.cell 0; have s1 := HR.out.cell 1; have s2 := HR.out.cell 2; have s3 := HR.out.cell 3; have s4 := HR.out.cell 4; have s5 := HR.out.cell 5; have s6 := HR.out.cell 6; (simp only [List.getElem?_cons_succ, List.getElem?_cons_zero] at s0 s1 s2 s3 s4 s5 s6); have z0 := HR.out.free 0; have z1 := HR.out.free 1; have z2 := HR.out.free 2; have z3 := HR.out.free 3; have z4 := HR.out.free 4; have z5 := HR.out.free 5; have z6 := HR.out.free 6; have hlr := HR.out.lt))
  refine bodyPost_ret (results_cell2 rfl _ _ w.heap.size TEn [.int .u32 s, .int .u32 (σ s).acc.vw, .int .u8 (σ s).acc.c, .int .u32 (σ s).acc.t, .int .u8 (σ s).acc.k, .int .u8 (σ s).acc.y, .int .u16 (σ s).acc.v] _ (.bool true) rfl rfl (((((((HR.out.setCell 0 _).setCell 1 _).setCell 2 _).setCell 3 _).setCell 4 _).setCell 5 _).setCell 6 _) Try.underlying35 (by kernel_rfl)) rfl ⟨rfl, (((((((HF.out.setCell _ _ (.inl (Nat.le_refl _))).setCell _ _ (.inl (Nat.le_refl _))).setCell _ _ (.inl (Nat.le_refl _))).setCell _ _ (.inl (Nat.le_refl _))).setCell _ _ (.inl (Nat.le_refl _))).setCell _ _ (.inl (Nat.le_refl _))).setCell _ _ (.inl (Nat.le_refl _)))⟩
theorem EntryP_false {w : World} {lb mb N : Nat} {low : Int} {g : Int → Option Nat} {σ : Int → Sl} (h : IsLogG w lb mb low N g σ) (s : Int) (hs : 0 ≤ s ∧ s ≤ 4294967295) (hz : toldS low σ (rdyS) s = false) :
    Calls Try.prog 31 #[.pointer (some ⟨lb, 0, none⟩), .int .u32 s, .func (.func 33) #[] #[]] w fun e w' => e = .returned (.tuple #[.agg #[.int .u32 0, .int .u32 0, .int .u8 0, .int .u32 0, .int .u8 0, .int .u8 0, .int .u16 0], .bool false]) ∧ Frm (fun _ => False) w w' := by
  cases hg : g s with
  | none => exact EntryP_none h s hs hg
  | some b =>
    cases hi : inW low s with
    | false => exact EntryP_out h s hs hg hi
    | true =>
      cases ht : (σ s).acc.th with
      | false => exact EntryP_not h s hs hg hi ht
      | true => (unfold toldS at hz; rw [hi, ht] at hz; exact EntryP_no h s hs hg hi ht hz)
theorem EntryP_true {w : World} {lb mb N : Nat} {low : Int} {g : Int → Option Nat} {σ : Int → Sl} (h : IsLogG w lb mb low N g σ) (s : Int) (hs : 0 ≤ s ∧ s ≤ 4294967295) (hz : toldS low σ (rdyS) s = true) :
    Calls Try.prog 31 #[.pointer (some ⟨lb, 0, none⟩), .int .u32 s, .func (.func 33) #[] #[]] w fun e w' => e = .returned (.tuple #[.agg #[.int .u32 s, .int .u32 (σ s).acc.vw, .int .u8 (σ s).acc.c, .int .u32 (σ s).acc.t, .int .u8 (σ s).acc.k, .int .u8 (σ s).acc.y, .int .u16 (σ s).acc.v], .bool true]) ∧ Frm (fun _ => False) w w' := by
  unfold toldS at hz
  rw [Bool.and_eq_true, Bool.and_eq_true] at hz
  obtain ⟨hi, ht, hm⟩ := hz
  cases hg : g s with
  | none => rw [h.none s hg] at ht; cases ht
  | some b => exact EntryP_yes h s hs hg hi ht hm
theorem Prepared_false {w : World} {lb mb N : Nat} {low : Int} {g : Int → Option Nat} {σ : Int → Sl} (h : IsLogG w lb mb low N g σ) (s : Int) (hs : 0 ≤ s ∧ s ≤ 4294967295) (hz : toldS low σ (rdyS) s = false) :
    Calls Try.prog 15 #[.pointer (some ⟨lb, 0, none⟩), .int .u32 s] w fun e w' => e = .returned (.tuple #[.agg #[.int .u32 0, .int .u32 0, .int .u8 0, .int .u32 0, .int .u8 0, .int .u8 0, .int .u16 0], .bool false]) ∧ Frm (fun _ => False) w w' := by
  have HE := hid (h.quiet (frm_box w (.cells #[.int .u32 0, .int .u32 0, .int .u8 0, .int .u32 0, .int .u8 0, .int .u8 0, .int .u16 0] TEn)))
  have HS := hid hs; have HZ := hid hz
  have HRB := hid (Blk.new w [.int .u32 0, .int .u32 0, .int .u8 0, .int .u32 0, .int .u8 0, .int .u8 0, .int .u16 0] TEn)
  clear h hs hz
  go_enter Try.func15, Try.ntmps15
  go_wp2_with (first
    | (go_at_call 31; (with_reducible refine (EntryP_false HE.out s HS.out HZ.out).mono ?_); rintro e w' ⟨rfl, f'⟩; (try unfold en0); have HR := hid (HRB.out.frm f' (fun h => h)); have HF := hid ((frm_box w _).trans f'); clear f'; have s0 := HR.out.cell 0; have s1 := HR.out.cell 1; have s2 := HR.out.cell 2; have s3 := HR.out.cell 3; have s4 := HR.out.cell 4; have s5 := HR.out.cell 5; have s6 := HR.out.cell 6; (simp only [List.getElem?_cons_succ, List.getElem?_cons_zero] at s0 s1 s2 s3 s4 s5 s6); have z0 := HR.out.free 0; have z1 := HR.out.free 1; have z2 := HR.out.free 2; have z3 := HR.out.free 3; have z4 := HR.out.free 4; have z5 := HR.out.free 5; have z6 := HR.out.free 6; have hlr := HR.out.lt))
  refine bodyPost_ret (results_cell2 rfl _ _ w.heap.size TEn [.int .u32 0, .int .u32 0, .int .u8 0, .int .u32 0, .int .u8 0, .int .u8 0, .int .u16 0] _ (.bool false) rfl rfl (((((((HR.out.setCell 0 _).setCell 1 _).setCell 2 _).setCell 3 _).setCell 4 _).setCell 5 _).setCell 6 _) Try.underlying35 (by kernel_rfl)) rfl ⟨rfl, (((((((HF.out.setCell _ _ (.inl (Nat.le_refl _))).setCell _ _ (.inl (Nat.le_refl _))).setCell _ _ (.inl (Nat.le_refl _))).setCell _ _ (.inl (Nat.le_refl _))).setCell _ _ (.inl (Nat.le_refl _))).setCell _ _ (.inl (Nat.le_refl _))).setCell _ _ (.inl (Nat.le_refl _)))⟩
theorem Prepared_true {w : World} {lb mb N : Nat} {low : Int} {g : Int → Option Nat} {σ : Int → Sl} (h : IsLogG w lb mb low N g σ) (s : Int) (hs : 0 ≤ s ∧ s ≤ 4294967295) (hz : toldS low σ (rdyS) s = true) :
    Calls Try.prog 15 #[.pointer (some ⟨lb, 0, none⟩), .int .u32 s] w fun e w' => e = .returned (.tuple #[.agg #[.int .u32 s, .int .u32 (σ s).acc.vw, .int .u8 (σ s).acc.c, .int .u32 (σ s).acc.t, .int .u8 (σ s).acc.k, .int .u8 (σ s).acc.y, .int .u16 (σ s).acc.v], .bool true]) ∧ Frm (fun _ => False) w w' := by
  have HE := hid (h.quiet (frm_box w (.cells #[.int .u32 0, .int .u32 0, .int .u8 0, .int .u32 0, .int .u8 0, .int .u8 0, .int .u16 0] TEn)))
  have HS := hid hs; have HZ := hid hz
  have HRB := hid (Blk.new w [.int .u32 0, .int .u32 0, .int .u8 0, .int .u32 0, .int .u8 0, .int .u8 0, .int .u16 0] TEn)
  clear h hs hz
  go_enter Try.func15, Try.ntmps15
  go_wp2_with (first
    | (go_at_call 31; (with_reducible refine (EntryP_true HE.out s HS.out HZ.out).mono ?_); rintro e w' ⟨rfl, f'⟩; (try unfold en0); have HR := hid (HRB.out.frm f' (fun h => h)); have HF := hid ((frm_box w _).trans f'); clear f'; have s0 := HR.out.cell 0; have s1 := HR.out.cell 1; have s2 := HR.out.cell 2; have s3 := HR.out.cell 3; have s4 := HR.out.cell 4; have s5 := HR.out.cell 5; have s6 := HR.out.cell 6; (simp only [List.getElem?_cons_succ, List.getElem?_cons_zero] at s0 s1 s2 s3 s4 s5 s6); have z0 := HR.out.free 0; have z1 := HR.out.free 1; have z2 := HR.out.free 2; have z3 := HR.out.free 3; have z4 := HR.out.free 4; have z5 := HR.out.free 5; have z6 := HR.out.free 6; have hlr := HR.out.lt))
  refine bodyPost_ret (results_cell2 rfl _ _ w.heap.size TEn [.int .u32 s, .int .u32 (σ s).acc.vw, .int .u8 (σ s).acc.c, .int .u32 (σ s).acc.t, .int .u8 (σ s).acc.k, .int .u8 (σ s).acc.y, .int .u16 (σ s).acc.v] _ (.bool true) rfl rfl (((((((HR.out.setCell 0 _).setCell 1 _).setCell 2 _).setCell 3 _).setCell 4 _).setCell 5 _).setCell 6 _) Try.underlying35 (by kernel_rfl)) rfl ⟨rfl, (((((((HF.out.setCell _ _ (.inl (Nat.le_refl _))).setCell _ _ (.inl (Nat.le_refl _))).setCell _ _ (.inl (Nat.le_refl _))).setCell _ _ (.inl (Nat.le_refl _))).setCell _ _ (.inl (Nat.le_refl _))).setCell _ _ (.inl (Nat.le_refl _))).setCell _ _ (.inl (Nat.le_refl _)))⟩
theorem EntryC_false {w : World} {lb mb N : Nat} {low : Int} {g : Int → Option Nat} {σ : Int → Sl} (h : IsLogG w lb mb low N g σ) (s : Int) (hs : 0 ≤ s ∧ s ≤ 4294967295) (hz : toldS low σ (comS) s = false) :
    Calls Try.prog 31 #[.pointer (some ⟨lb, 0, none⟩), .int .u32 s, .func (.func 32) #[] #[]] w fun e w' => e = .returned (.tuple #[.agg #[.int .u32 0, .int .u32 0, .int .u8 0, .int .u32 0, .int .u8 0, .int .u8 0, .int .u16 0], .bool false]) ∧ Frm (fun _ => False) w w' := by
  cases hg : g s with
  | none => exact EntryC_none h s hs hg
  | some b =>
    cases hi : inW low s with
    | false => exact EntryC_out h s hs hg hi
    | true =>
      cases ht : (σ s).acc.th with
      | false => exact EntryC_not h s hs hg hi ht
      | true => (unfold toldS at hz; rw [hi, ht] at hz; exact EntryC_no h s hs hg hi ht hz)
theorem EntryC_true {w : World} {lb mb N : Nat} {low : Int} {g : Int → Option Nat} {σ : Int → Sl} (h : IsLogG w lb mb low N g σ) (s : Int) (hs : 0 ≤ s ∧ s ≤ 4294967295) (hz : toldS low σ (comS) s = true) :
    Calls Try.prog 31 #[.pointer (some ⟨lb, 0, none⟩), .int .u32 s, .func (.func 32) #[] #[]] w fun e w' => e = .returned (.tuple #[.agg #[.int .u32 s, .int .u32 (σ s).acc.vw, .int .u8 (σ s).acc.c, .int .u32 (σ s).acc.t, .int .u8 (σ s).acc.k, .int .u8 (σ s).acc.y, .int .u16 (σ s).acc.v], .bool true]) ∧ Frm (fun _ => False) w w' := by
  unfold toldS at hz
  rw [Bool.and_eq_true, Bool.and_eq_true] at hz
  obtain ⟨hi, ht, hm⟩ := hz
  cases hg : g s with
  | none => rw [h.none s hg] at ht; cases ht
  | some b => exact EntryC_yes h s hs hg hi ht hm
theorem Committed_false {w : World} {lb mb N : Nat} {low : Int} {g : Int → Option Nat} {σ : Int → Sl} (h : IsLogG w lb mb low N g σ) (s : Int) (hs : 0 ≤ s ∧ s ≤ 4294967295) (hz : toldS low σ (comS) s = false) :
    Calls Try.prog 13 #[.pointer (some ⟨lb, 0, none⟩), .int .u32 s] w fun e w' => e = .returned (.tuple #[.agg #[.int .u32 0, .int .u32 0, .int .u8 0, .int .u32 0, .int .u8 0, .int .u8 0, .int .u16 0], .bool false]) ∧ Frm (fun _ => False) w w' := by
  have HE := hid (h.quiet (frm_box w (.cells #[.int .u32 0, .int .u32 0, .int .u8 0, .int .u32 0, .int .u8 0, .int .u8 0, .int .u16 0] TEn)))
  have HS := hid hs; have HZ := hid hz
  have HRB := hid (Blk.new w [.int .u32 0, .int .u32 0, .int .u8 0, .int .u32 0, .int .u8 0, .int .u8 0, .int .u16 0] TEn)
  clear h hs hz
  go_enter Try.func13, Try.ntmps13
  go_wp2_with (first
    | (go_at_call 31; (with_reducible refine (EntryC_false HE.out s HS.out HZ.out).mono ?_); rintro e w' ⟨rfl, f'⟩; (try unfold en0); have HR := hid (HRB.out.frm f' (fun h => h)); have HF := hid ((frm_box w _).trans f'); clear f'; have s0 := HR.out.cell 0; have s1 := HR.out.cell 1; have s2 := HR.out.cell 2; have s3 := HR.out.cell 3; have s4 := HR.out.cell 4; have s5 := HR.out.cell 5; have s6 := HR.out.cell 6; (simp only [List.getElem?_cons_succ, List.getElem?_cons_zero] at s0 s1 s2 s3 s4 s5 s6); have z0 := HR.out.free 0; have z1 := HR.out.free 1; have z2 := HR.out.free 2; have z3 := HR.out.free 3; have z4 := HR.out.free 4; have z5 := HR.out.free 5; have z6 := HR.out.free 6; have hlr := HR.out.lt))
  refine bodyPost_ret (results_cell2 rfl _ _ w.heap.size TEn [.int .u32 0, .int .u32 0, .int .u8 0, .int .u32 0, .int .u8 0, .int .u8 0, .int .u16 0] _ (.bool false) rfl rfl (((((((HR.out.setCell 0 _).setCell 1 _).setCell 2 _).setCell 3 _).setCell 4 _).setCell 5 _).setCell 6 _) Try.underlying35 (by kernel_rfl)) rfl ⟨rfl, (((((((HF.out.setCell _ _ (.inl (Nat.le_refl _))).setCell _ _ (.inl (Nat.le_refl _))).setCell _ _ (.inl (Nat.le_refl _))).setCell _ _ (.inl (Nat.le_refl _))).setCell _ _ (.inl (Nat.le_refl _))).setCell _ _ (.inl (Nat.le_refl _))).setCell _ _ (.inl (Nat.le_refl _)))⟩
theorem Committed_true {w : World} {lb mb N : Nat} {low : Int} {g : Int → Option Nat} {σ : Int → Sl} (h : IsLogG w lb mb low N g σ) (s : Int) (hs : 0 ≤ s ∧ s ≤ 4294967295) (hz : toldS low σ (comS) s = true) :
    Calls Try.prog 13 #[.pointer (some ⟨lb, 0, none⟩), .int .u32 s] w fun e w' => e = .returned (.tuple #[.agg #[.int .u32 s, .int .u32 (σ s).acc.vw, .int .u8 (σ s).acc.c, .int .u32 (σ s).acc.t, .int .u8 (σ s).acc.k, .int .u8 (σ s).acc.y, .int .u16 (σ s).acc.v], .bool true]) ∧ Frm (fun _ => False) w w' := by
  have HE := hid (h.quiet (frm_box w (.cells #[.int .u32 0, .int .u32 0, .int .u8 0, .int .u32 0, .int .u8 0, .int .u8 0, .int .u16 0] TEn)))
  have HS := hid hs; have HZ := hid hz
  have HRB := hid (Blk.new w [.int .u32 0, .int .u32 0, .int .u8 0, .int .u32 0, .int .u8 0, .int .u8 0, .int .u16 0] TEn)
  clear h hs hz
  go_enter Try.func13, Try.ntmps13
  go_wp2_with (first
    | (go_at_call 31; (with_reducible refine (EntryC_true HE.out s HS.out HZ.out).mono ?_); rintro e w' ⟨rfl, f'⟩; (try unfold en0); have HR := hid (HRB.out.frm f' (fun h => h)); have HF := hid ((frm_box w _).trans f'); clear f'; have s0 := HR.out.cell 0; have s1 := HR.out.cell 1; have s2 := HR.out.cell 2; have s3 := HR.out.cell 3; have s4 := HR.out.cell 4; have s5 := HR.out.cell 5; have s6 := HR.out.cell 6; (simp only [List.getElem?_cons_succ, List.getElem?_cons_zero] at s0 s1 s2 s3 s4 s5 s6); have z0 := HR.out.free 0; have z1 := HR.out.free 1; have z2 := HR.out.free 2; have z3 := HR.out.free 3; have z4 := HR.out.free 4; have z5 := HR.out.free 5; have z6 := HR.out.free 6; have hlr := HR.out.lt))
  refine bodyPost_ret (results_cell2 rfl _ _ w.heap.size TEn [.int .u32 s, .int .u32 (σ s).acc.vw, .int .u8 (σ s).acc.c, .int .u32 (σ s).acc.t, .int .u8 (σ s).acc.k, .int .u8 (σ s).acc.y, .int .u16 (σ s).acc.v] _ (.bool true) rfl rfl (((((((HR.out.setCell 0 _).setCell 1 _).setCell 2 _).setCell 3 _).setCell 4 _).setCell 5 _).setCell 6 _) Try.underlying35 (by kernel_rfl)) rfl ⟨rfl, (((((((HF.out.setCell _ _ (.inl (Nat.le_refl _))).setCell _ _ (.inl (Nat.le_refl _))).setCell _ _ (.inl (Nat.le_refl _))).setCell _ _ (.inl (Nat.le_refl _))).setCell _ _ (.inl (Nat.le_refl _))).setCell _ _ (.inl (Nat.le_refl _))).setCell _ _ (.inl (Nat.le_refl _)))⟩
end Go.Proofs.Ytijomhinfcahpaa
