/- check.List: the one list of all that ran. -/
import Derived.Test.YtljfbaakgjmmfaaChkOnce
namespace Go.Proofs.Ytljfbaakgjmmfaa
open Go.RowKit Go.ChangeShapes
set_option linter.unusedVariables false
set_option linter.unusedSimpArgs false
set_option maxRecDepth 100000
abbrev TDn : Nat := 36
abbrev TMd : Nat := 61
abbrev TU32 : Nat := 25
structure Dn where
  s : Int
  r : Rq
  x : Int
def dnC (d : Dn) : List Value := [.int .u32 d.s, .int .u8 d.r.c, .int .u32 d.r.t, .int .u8 d.r.k, .int .u8 d.r.y, .int .u16 d.r.v, .int .u32 d.x]
structure IsDns (w : World) (a : Option Addr) (cap : Nat) (l : List Dn) : Prop where
  le : l.length ≤ cap
  small : cap ≤ 9223372036854775807
  at_ : l.length ≠ 0 → ∃ b o, a = some ⟨b, o, none⟩ ∧ b < w.heap.size ∧ ∀ j d, l[j]? = some d → ∀ i, i < 7 → w.cell? ⟨b, o + j * 7 + i, none⟩ = (dnC d)[i]?
structure IsDss (w : World) (a : Option Addr) (cap : Nat) (ls : List (List Dn)) : Prop where
  le : ls.length ≤ cap
  small : cap ≤ 9223372036854775807
  at_ : ls.length ≠ 0 → ∃ b o, a = some ⟨b, o, none⟩ ∧ b < w.heap.size ∧ ∀ j l, ls[j]? = some l → ∃ aj cj, w.cell? ⟨b, o + j, none⟩ = some (.slice aj l.length cj) ∧ IsDns w aj cj l
structure DnOk (d : Dn) : Prop where
  s : 0 ≤ d.s ∧ d.s ≤ 2000
  r : RqOk d.r
def rq0 : Rq := ⟨0, 0, 0, 0, 0⟩
def updR (g : Int → Option Rq) (s : Int) (r : Rq) : Int → Option Rq := fun i => if i = s then some r else g i
def badD (g : Int → Option Rq) (last : Int) (d : Dn) : Bool := decide (d.s ≤ last) || (match g d.s with | some r => !(r.eqb d.r) | none => false)
def runF (g : Int → Option Rq) (most : Int) (n : Nat) (last : Int) : List Dn → Option ((Int → Option Rq) × Int × Nat)
  | [] => some (g, most, n)
  | d :: l => if badD g last d = true then none else runF (updR g d.s d.r) (max most d.s) (if g d.s = none then n + 1 else n) d.s l
def finF (g : Int → Option Rq) (most : Int) (n : Nat) : Option (List Rq) := if (n : Int) = most then some ((List.range most.toNat).map fun (i : Nat) => (g ((i : Int) + 1)).getD rq0) else none
def totF (g : Int → Option Rq) (most : Int) (n : Nat) : List (List Dn) → Option (List Rq)
  | [] => finF g most n
  | l :: ls => match runF g most n 0 l with
    | none => none
    | some (g', m', n') => totF g' m' n' ls
def goF (g : Int → Option Rq) (most : Int) (n : Nat) (last : Int) (l : List Dn) (ls : List (List Dn)) : Option (List Rq) := match runF g most n last l with
  | none => none
  | some (g', m', n') => totF g' m' n' ls
theorem goF_nil (g : Int → Option Rq) (most : Int) (n : Nat) (last : Int) (ls : List (List Dn)) : goF g most n last [] ls = totF g most n ls := rfl
theorem goF_bad {g : Int → Option Rq} {most : Int} {n : Nat} {last : Int} {d : Dn} (h : badD g last d = true) (l : List Dn) (ls : List (List Dn)) : goF g most n last (d :: l) ls = none := by rw [goF, runF, if_pos h]
theorem goF_ok {g : Int → Option Rq} {most : Int} {n : Nat} {last : Int} {d : Dn} (h : badD g last d = false) (l : List Dn) (ls : List (List Dn)) : goF g most n last (d :: l) ls = goF (updR g d.s d.r) (max most d.s) (if g d.s = none then n + 1 else n) d.s l ls := by
  rw [goF, runF, if_neg (by rw [h]; decide)]; rfl
def fOfR (g : Int → Option Rq) : Value → Option Value
  | .int .u32 s => (g s).map rqV
  | _ => none
theorem fOfR_upd (g : Int → Option Rq) (s : Int) (r : Rq) : IsUpd (fOfR g) (fOfR (updR g s r)) (.int .u32 s) (some (rqV r)) := by
  refine ⟨by simp [fOfR, updR], fun x hx => ?_⟩
  unfold fOfR
  split
  · rename_i s'
    have : s' ≠ s := fun e => hx (by rw [e])
    simp [updR, this]
  · rfl
theorem fOfR_none {g : Int → Option Rq} {s : Int} (h : g s = none) : fOfR g (.int .u32 s) = none := by show (g s).map rqV = none; rw [h]; rfl
theorem fOfR_some {g : Int → Option Rq} {s : Int} {r : Rq} (h : g s = some r) : fOfR g (.int .u32 s) = some (rqV r) := by show (g s).map rqV = _; rw [h]; rfl
theorem fOfR_iff (g : Int → Option Rq) (s : Int) : fOfR g (.int .u32 s) = none ↔ g s = none := by
  show (g s).map rqV = none ↔ _
  exact Option.map_eq_none_iff
theorem key32d {s : Int} (h : 0 ≤ s ∧ s ≤ 2000) : keyOf Try.prog TU32 (.int .u32 s) = some (.int .u32 s) := Go.Maps.keyOf_int_mk Try.underlying25 (wf32k ⟨h.1, by omega⟩)
theorem keyed32d : Go.Maps.Keyed Try.prog TU32 := Go.Maps.int_keyed Try.underlying25
theorem u_mapd : Try.prog.underlying TMd = some (.map TU32 TRq) := Try.underlying61
theorem z_rq (w : World) : (zeroValue TRq).run Try.prog w = .ok (rqV rq0) w := by kernel_rfl
theorem fOfR_empty : fOfR (fun _ => none) = fun _ => none := by
  funext x
  unfold fOfR
  split <;> rfl
/-- What List tells: the list, or that there is none. -/
def LRes (B : Nat) (w' : World) (e : Ending) : Option (List Rq) → Prop
  | none => e = .returned (.tuple #[.slice none 0 0, .int .i64 240])
  | some out => ∃ v', e = .returned (.tuple #[v', .int .i64 0]) ∧ OwnR w' (fun k => k < B) v' out
theorem LRes_none {B : Nat} {w' : World} {z : Option (List Rq)} (h : none = z) : LRes B w' (.returned (.tuple #[.slice none 0 0, .int .i64 240])) z := by subst h; rfl
theorem bad_le {g : Int → Option Rq} {last : Int} {d : Dn} (h : d.s ≤ last) : badD g last d = true := by unfold badD; rw [decide_eq_true h]; rfl
theorem bad_none {g : Int → Option Rq} {last : Int} {d : Dn} (h : ¬ d.s ≤ last) (hg : g d.s = none) : badD g last d = false := by unfold badD; rw [decide_eq_false h, hg]; rfl
theorem bad_some {g : Int → Option Rq} {last : Int} {d : Dn} {r : Rq} (h : ¬ d.s ≤ last) (hg : g d.s = some r) (e : Bool) (he : r.eqb d.r = e) : badD g last d = !e := by unfold badD; rw [decide_eq_false h, hg, ← he]; rfl
theorem two_b (w : World) (o o' : Obj) : Frm (fun _ => False) w ((w.alloc o).alloc o') := ((Frm.refl _ _).alloc o).alloc o'
set_option maxHeartbeats 32000000 in
theorem List_calls {w : World} {a : Option Addr} {ca : Nat} {ls : List (List Dn)} (h : IsDss w a ca ls) (hok : ∀ l ∈ ls, ∀ d ∈ l, DnOk d) (hlen : ∀ l ∈ ls, l.length ≤ 60) (hls : ls.length ≤ 6) (z : Option (List Rq)) (hz : totF (fun _ => none) 0 0 ls = z) :
    Calls Try.prog 9 #[.slice a ls.length ca] w fun e w' => LRes w.heap.size w' e z ∧ Below w.heap.size w w' := by
  have hle := h.le
  have hsm := h.small
  have H0 := hid h; have HOK := hid hok; have HLE := hid hlen; have HLS := hid hls; have HZ := hid hz
  clear h hok hlen hls hz
  have hmm := @run_makeMap Try.prog
  have HP0 := hid (IsMp.made TU32 w)
  have HF0 := hid ((Below.refl w.heap.size w).alloc (Nat.le_refl _) (.map #[] 0))
  go_enter Try.func9, Try.ntmps9
  go_wp2
  clear hmm
  go_loopw [5, 18] (fun mv iv wr => ∃ (j n : Nat) (most : Int) (g : Int → Option Rq), j ≤ ls.length ∧ n ≤ 60 * j ∧ (0 ≤ most ∧ most ≤ 2000) ∧ mv = .int .u32 most ∧ iv = .int .i64 j ∧ totF g most n (ls.drop j) = z ∧ IsMp TU32 wr w.heap.size n (fOfR g) ∧ Below w.heap.size w wr) (fun _ i _ => ls.length - (intOf i).toNat)
  case atStart => exact ⟨0, 0, 0, _, by omega, Nat.le_refl _, by omega, rfl, rfl, HZ.out, by rw [fOfR_empty]; exact HP0.out, HF0.out⟩
  case round =>
    clear HP0 HF0
    obtain ⟨j, n, most, g, hj, hnj, hmo, rfl, rfl, hrz, hp, hf⟩ := hrel
    have HF := hid hf; have HP := hid hp; have HNJ := hid hnj; have HRZ := hid hrz; have HMO := hid hmo
    clear hf hp hnj hrz hmo
    by_cases hlt : j < ls.length
    · obtain ⟨ga, oa, rfl, hga, hca⟩ := H0.out.at_ (by omega)
      obtain ⟨l, hl⟩ : ∃ l, ls[j]? = some l := ⟨ls[j]'hlt, List.getElem?_eq_getElem hlt⟩
      obtain ⟨al, cl, hcl, hdl⟩ := hca j l hl
      have hmem := List.mem_of_getElem? hl
      have q0 := (HF.out.cell (p := ⟨ga, oa + j, none⟩) hga).trans hcl
      have HRG := hid (show goF g most n 0 l (ls.drop (j + 1)) = z by have h := HRZ.out; rw [drop_cons hl, totF] at h; exact h)
      have HD := hid hdl; have HDO := hid (HOK.out l hmem); have HDL := hid (HLE.out l hmem)
      have hjl : (j : Int) < (ls.length : Int) := by omega
      have hcle := hdl.le
      have hcsm := hdl.small
      have HLT := hid hlt
      clear HRZ hcl hdl hmem hl hca hlt hga
      go_wp2
      clear q0
      go_loopw [5, 8, 24] (fun mv lv iv wr => ∃ (i n : Nat) (most last : Int) (g : Int → Option Rq), i ≤ l.length ∧ n ≤ 60 * j + i ∧ (0 ≤ most ∧ most ≤ 2000) ∧ (0 ≤ last ∧ last ≤ 2000) ∧ mv = .int .u32 most ∧ lv = .int .u32 last ∧ iv = .int .i64 i ∧ goF g most n last (l.drop i) (ls.drop (j + 1)) = z ∧ IsMp TU32 wr w.heap.size n (fOfR g) ∧ Below w.heap.size w wr) (fun _ _ i _ => l.length - (intOf i).toNat)
      case atStart => exact ⟨0, n, most, 0, g, by omega, by have := HNJ.out; omega, HMO.out, by omega, rfl, rfl, rfl, HRG.out, HP.out, HF.out⟩
      case round =>
        clear HP HF HNJ HMO HRG
        obtain ⟨i, n, most, last, g, hi, hnj, hmo, hla, rfl, rfl, rfl, hrz, hp, hf⟩ := hrel
        have HF := hid hf; have HP := hid hp; have HNJ := hid hnj; have HRZ := hid hrz; have HMO := hid hmo
        clear hf hp hnj hrz
        by_cases hlt : i < l.length
        · obtain ⟨gb, ob, rfl, hgb, hcb⟩ := HD.out.at_ (by omega)
          obtain ⟨d, hd⟩ : ∃ d, l[i]? = some d := ⟨l[i]'hlt, List.getElem?_eq_getElem hlt⟩
          have hdk := HDO.out d (List.mem_of_getElem? hd)
          have q0 := (HF.out.cell (p := ⟨gb, ob + i * 7 + 0, none⟩) (Nat.lt_of_lt_of_le hgb (Nat.le_refl _))).trans (hcb i d hd 0 (by decide)); have q1 := (HF.out.cell (p := ⟨gb, ob + i * 7 + 1, none⟩) (Nat.lt_of_lt_of_le hgb (Nat.le_refl _))).trans (hcb i d hd 1 (by decide)); have q2 := (HF.out.cell (p := ⟨gb, ob + i * 7 + 2, none⟩) (Nat.lt_of_lt_of_le hgb (Nat.le_refl _))).trans (hcb i d hd 2 (by decide)); have q3 := (HF.out.cell (p := ⟨gb, ob + i * 7 + 3, none⟩) (Nat.lt_of_lt_of_le hgb (Nat.le_refl _))).trans (hcb i d hd 3 (by decide)); have q4 := (HF.out.cell (p := ⟨gb, ob + i * 7 + 4, none⟩) (Nat.lt_of_lt_of_le hgb (Nat.le_refl _))).trans (hcb i d hd 4 (by decide)); have q5 := (HF.out.cell (p := ⟨gb, ob + i * 7 + 5, none⟩) (Nat.lt_of_lt_of_le hgb (Nat.le_refl _))).trans (hcb i d hd 5 (by decide)); have q6 := (HF.out.cell (p := ⟨gb, ob + i * 7 + 6, none⟩) (Nat.lt_of_lt_of_le hgb (Nat.le_refl _))).trans (hcb i d hd 6 (by decide))
          have HG := hid (show goF g most n last (d :: l.drop (i + 1)) (ls.drop (j + 1)) = z by have h := HRZ.out; rw [drop_cons hd] at h; exact h)
          clear HRZ hd hcb
          obtain ⟨s, ⟨c, t, k, y, v⟩, x⟩ := d
          obtain ⟨hs0, hrk⟩ := hdk
          dsimp only at hs0 hrk
          simp only [dnC, List.getElem?_cons_succ, List.getElem?_cons_zero, Nat.add_zero] at q0 q1 q2 q3 q4 q5 q6
          have hil : (i : Int) < (l.length : Int) := by omega
          have HLT2 := hid hlt
          have HS := hid hs0
          have hn32 : (s : Int) ≤ 4294967295 := by omega
          clear hlt hgb hrk
          have HPB := hid (fun o => HP.out.frm (frm_box wr o) (fun h => h))
          by_cases hsl : s ≤ last
          · have HZN := hid (show none = z by rw [← HG.out]; exact (goF_bad (by unfold badD; rw [decide_eq_true hsl]; rfl) _ _).symm)
            cases hgs : g s with
            | none =>
              have q9 := fun o => (HPB.out o).look_none keyed32d u_mapd (z_rq _) (key32d HS.out) (fOfR_none hgs) true
              (simp only [if_true, rqV, rq0] at q9)
              clear hgs HG
              go_wp2
              go_ret2
              exact ⟨LRes_none HZN.out, (HF.out.alloc HF.out.size _).alloc (by have := HF.out.size; simp; omega) _⟩
            | some r =>
              have q9 := fun o => (HPB.out o).look_some keyed32d u_mapd (z_rq _) (key32d HS.out) (fOfR_some hgs) true
              (simp only [if_true, rqV] at q9)
              clear hgs HG
              go_wp2
              go_ret2
              exact ⟨LRes_none HZN.out, (HF.out.alloc HF.out.size _).alloc (by have := HF.out.size; simp; omega) _⟩
          · have hsl' : last < s := by omega
            cases hgs : g s with
            | none =>
              have q9 := fun o => (HPB.out o).look_none keyed32d u_mapd (z_rq _) (key32d HS.out) (fOfR_none hgs) true
              (simp only [if_true, rqV, rq0] at q9)
              have HGO := hid (show goF (updR g s ⟨c, t, k, y, v⟩) (max most s) (n + 1) s (l.drop (i + 1)) (ls.drop (j + 1)) = z by have h := HG.out; rw [goF_ok (bad_none hsl hgs)] at h; dsimp only at h; rw [if_pos hgs] at h; exact h)
              have HN := hid (fOfR_none hgs)
              clear hgs HG hsl
              by_cases hmls : most < s
              · have hml : most < s := hmls
                have HG2 := hid (show goF (updR g s ⟨c, t, k, y, v⟩) s (n + 1) s (l.drop (i + 1)) (ls.drop (j + 1)) = z by have h := HGO.out; rw [show max most s = s by omega] at h; exact h)
                have HMB := hid (show 0 ≤ s ∧ s ≤ 2000 by have := HS.out; have := HMO.out; omega)
                clear HGO hmls
                go_wp2_with (first
                  | (at_mapUpdate; refine wpList_mp_upd rfl _ _ _ rfl (HP.out.frm (two_b wr _ _) (fun h => h)) keyed32d u_mapd (by have := HNJ.out; have := HLT.out; have := HLT2.out; have := HDL.out; have := HLS.out; omega) _ _ _ (key32d HS.out) (fOfR_upd g s ⟨c, t, k, y, v⟩) rfl rfl rfl ?_; rw [if_pos HN.out]; intro w4 hp4 hf4 hs4; have HB := hid (((Blk.new wr (dnC ⟨s, ⟨c, t, k, y, v⟩, x⟩) TDn).frm (frm_box _ _) (fun h => h)).frm hf4 (fun e => absurd e (Nat.ne_of_gt HP.out.lt))); have HF2 := hid (below_frm1 ((HF.out.alloc HF.out.size _).alloc (by have := HF.out.size; simp; omega) _) hf4 (Nat.le_refl _)); clear HF HP HPB q9; have HF := HF2; have HP := hid hp4; clear HF2 hp4 hf4 hs4; have d0 := HB.out.cell 0; (simp only [dnC, List.getElem?_cons_zero] at d0)))
                go_roundw
                case rel => exact ⟨i + 1, n + 1, s, s, _, by have := HLT2.out; omega, by have := HNJ.out; omega, HMB.out, HS.out, rfl, rfl, by go_num, HG2.out, HP.out, HF.out⟩
                case measure => simp [intOf]; have := HLT2.out; omega
              · have hml : s ≤ most := by omega
                have HG2 := hid (show goF (updR g s ⟨c, t, k, y, v⟩) most (n + 1) s (l.drop (i + 1)) (ls.drop (j + 1)) = z by have h := HGO.out; rw [show max most s = most by omega] at h; exact h)
                have HMB := hid (show 0 ≤ most ∧ most ≤ 2000 by have := HS.out; have := HMO.out; omega)
                clear HGO hmls
                go_wp2_with (first
                  | (at_mapUpdate; refine wpList_mp_upd rfl _ _ _ rfl (HP.out.frm (two_b wr _ _) (fun h => h)) keyed32d u_mapd (by have := HNJ.out; have := HLT.out; have := HLT2.out; have := HDL.out; have := HLS.out; omega) _ _ _ (key32d HS.out) (fOfR_upd g s ⟨c, t, k, y, v⟩) rfl rfl rfl ?_; rw [if_pos HN.out]; intro w4 hp4 hf4 hs4; have HB := hid (((Blk.new wr (dnC ⟨s, ⟨c, t, k, y, v⟩, x⟩) TDn).frm (frm_box _ _) (fun h => h)).frm hf4 (fun e => absurd e (Nat.ne_of_gt HP.out.lt))); have HF2 := hid (below_frm1 ((HF.out.alloc HF.out.size _).alloc (by have := HF.out.size; simp; omega) _) hf4 (Nat.le_refl _)); clear HF HP HPB q9; have HF := HF2; have HP := hid hp4; clear HF2 hp4 hf4 hs4; have d0 := HB.out.cell 0; (simp only [dnC, List.getElem?_cons_zero] at d0)))
                go_roundw
                case rel => exact ⟨i + 1, n + 1, most, s, _, by have := HLT2.out; omega, by have := HNJ.out; omega, HMB.out, HS.out, rfl, rfl, by go_num, HG2.out, HP.out, HF.out⟩
                case measure => simp [intOf]; have := HLT2.out; omega
            | some r =>
              have q9 := fun o => (HPB.out o).look_some keyed32d u_mapd (z_rq _) (key32d HS.out) (fOfR_some hgs) true
              obtain ⟨c', t', k', y', v'⟩ := r
              (simp only [if_true, rqV] at q9)
              obtain ⟨e, he⟩ : ∃ e, (c' == c && (t' == t && (k' == k && (y' == y && v' == v)))) = e := ⟨_, rfl⟩
              have hqn := fun w => neqRq w c' t' k' y' v' c t k y v e he
              have hbd := bad_some (d := ⟨s, ⟨c, t, k, y, v⟩, x⟩) hsl hgs e he
              cases e
              · have HZN := hid (show none = z by rw [← HG.out]; exact (goF_bad hbd _ _).symm)
                clear hgs HG hsl hbd he
                go_wp2
                go_ret2
                exact ⟨LRes_none HZN.out, (HF.out.alloc HF.out.size _).alloc (by have := HF.out.size; simp; omega) _⟩
              · have HGO := hid (show goF (updR g s ⟨c, t, k, y, v⟩) (max most s) n s (l.drop (i + 1)) (ls.drop (j + 1)) = z by have h := HG.out; rw [goF_ok hbd] at h; dsimp only at h; rw [if_neg (by rw [hgs]; exact fun h => by cases h)] at h; exact h)
                have HN := hid (show fOfR g (.int .u32 s) ≠ none by rw [fOfR_some hgs]; exact fun h => by cases h)
                clear hgs HG hsl hbd he
                by_cases hmls : most < s
                · have hml : most < s := hmls
                  have HG2 := hid (show goF (updR g s ⟨c, t, k, y, v⟩) s (n) s (l.drop (i + 1)) (ls.drop (j + 1)) = z by have h := HGO.out; rw [show max most s = s by omega] at h; exact h)
                  have HMB := hid (show 0 ≤ s ∧ s ≤ 2000 by have := HS.out; have := HMO.out; omega)
                  clear HGO hmls
                  go_wp2_with (first
                    | (at_mapUpdate; refine wpList_mp_upd rfl _ _ _ rfl (HP.out.frm (two_b wr _ _) (fun h => h)) keyed32d u_mapd (by have := HNJ.out; have := HLT.out; have := HLT2.out; have := HDL.out; have := HLS.out; omega) _ _ _ (key32d HS.out) (fOfR_upd g s ⟨c, t, k, y, v⟩) rfl rfl rfl ?_; rw [if_neg HN.out]; intro w4 hp4 hf4 hs4; have HB := hid (((Blk.new wr (dnC ⟨s, ⟨c, t, k, y, v⟩, x⟩) TDn).frm (frm_box _ _) (fun h => h)).frm hf4 (fun e => absurd e (Nat.ne_of_gt HP.out.lt))); have HF2 := hid (below_frm1 ((HF.out.alloc HF.out.size _).alloc (by have := HF.out.size; simp; omega) _) hf4 (Nat.le_refl _)); clear HF HP HPB q9; have HF := HF2; have HP := hid hp4; clear HF2 hp4 hf4 hs4; have d0 := HB.out.cell 0; (simp only [dnC, List.getElem?_cons_zero] at d0)))
                  go_roundw
                  case rel => exact ⟨i + 1, n, s, s, _, by have := HLT2.out; omega, by have := HNJ.out; omega, HMB.out, HS.out, rfl, rfl, by go_num, HG2.out, HP.out, HF.out⟩
                  case measure => simp [intOf]; have := HLT2.out; omega
                · have hml : s ≤ most := by omega
                  have HG2 := hid (show goF (updR g s ⟨c, t, k, y, v⟩) most (n) s (l.drop (i + 1)) (ls.drop (j + 1)) = z by have h := HGO.out; rw [show max most s = most by omega] at h; exact h)
                  have HMB := hid (show 0 ≤ most ∧ most ≤ 2000 by have := HS.out; have := HMO.out; omega)
                  clear HGO hmls
                  go_wp2_with (first
                    | (at_mapUpdate; refine wpList_mp_upd rfl _ _ _ rfl (HP.out.frm (two_b wr _ _) (fun h => h)) keyed32d u_mapd (by have := HNJ.out; have := HLT.out; have := HLT2.out; have := HDL.out; have := HLS.out; omega) _ _ _ (key32d HS.out) (fOfR_upd g s ⟨c, t, k, y, v⟩) rfl rfl rfl ?_; rw [if_neg HN.out]; intro w4 hp4 hf4 hs4; have HB := hid (((Blk.new wr (dnC ⟨s, ⟨c, t, k, y, v⟩, x⟩) TDn).frm (frm_box _ _) (fun h => h)).frm hf4 (fun e => absurd e (Nat.ne_of_gt HP.out.lt))); have HF2 := hid (below_frm1 ((HF.out.alloc HF.out.size _).alloc (by have := HF.out.size; simp; omega) _) hf4 (Nat.le_refl _)); clear HF HP HPB q9; have HF := HF2; have HP := hid hp4; clear HF2 hp4 hf4 hs4; have d0 := HB.out.cell 0; (simp only [dnC, List.getElem?_cons_zero] at d0)))
                  go_roundw
                  case rel => exact ⟨i + 1, n, most, s, _, by have := HLT2.out; omega, by have := HNJ.out; omega, HMB.out, HS.out, rfl, rfl, by go_num, HG2.out, HP.out, HF.out⟩
                  case measure => simp [intOf]; have := HLT2.out; omega
        · have hil : (l.length : Int) ≤ (i : Int) := by omega
          have HT := hid (show totF g most n (ls.drop (j + 1)) = z by have h := HRZ.out; rw [List.drop_eq_nil_of_le (show l.length ≤ i by omega), goF_nil] at h; exact h)
          have HI := hid hi
          clear hlt HRZ
          go_wp2
          go_roundw
          case rel => exact ⟨j + 1, n, most, g, by have := HLT.out; omega, by have := HNJ.out; have := HDL.out; have := HI.out; omega, HMO.out, rfl, by go_num, HT.out, HP.out, HF.out⟩
          case measure => simp [intOf]; have := HLT.out; omega
    · have hjl : (ls.length : Int) ≤ (j : Int) := by omega
      have HFN := hid (show finF g most n = z by have h := HRZ.out; rw [List.drop_eq_nil_of_le (show ls.length ≤ j by omega), totF] at h; exact h)
      have hlm := HP.out.len u_mapd 3
      have hn3 : (n : Int) ≤ 360 := by have := HNJ.out; have := HLS.out; omega
      have hm0 := HMO.out.1
      clear hlt HRZ
      by_cases hnm : (n : Int) = most
      · subst hnm
        have HFN2 := hid (show some ((List.range n).map fun (i : Nat) => (g ((i : Int) + 1)).getD rq0) = z by have h := HFN.out; rw [finF, if_pos rfl, Int.toNat_natCast] at h; exact h)
        clear HFN
        go_wp2
        clear hlm
        rw [show decide (j < ls.length) = false from decide_eq_false (by omega)]
        go_loopw [13, 67] (fun ov iv wr => ∃ (i : Nat) (out : List Rq), i ≤ n ∧ iv = .int .u32 i ∧ out = (List.range i).map (fun (i : Nat) => (g ((i : Int) + 1)).getD rq0) ∧ OwnR wr (fun k => k ≤ w.heap.size) ov out ∧ IsMp TU32 wr w.heap.size n (fOfR g) ∧ Below w.heap.size w wr) (fun _ i _ => n - (intOf i).toNat)
        case atStart => exact ⟨0, _, Nat.zero_le _, rfl, rfl, OwnR.nil _ _, HP.out, HF.out⟩
        case round =>
          clear HP HF
          obtain ⟨i, out, hi, rfl, hout, ho, hp, hf⟩ := hrel
          have HF := hid hf; have HP := hid hp; have HO := hid ho; have HOU := hid hout
          clear hf hp ho hout
          by_cases hlt : i < n
          · have hil : (i : Int) < (n : Int) := by omega
            have e1 : IntKind.u32.wrap ((i : Int) + 1) = (i : Int) + 1 := by simp [IntKind.wrap, IntKind.bits, IntKind.signed]; omega
            have HLT := hid hlt
            have HS := hid (show 0 ≤ (i : Int) + 1 ∧ (i : Int) + 1 ≤ 2000 by omega)
            have HLO := hid (show out.length = i by rw [HOU.out, List.length_map, List.length_range])
            have HN3 := hid hn3
            have HOU2 := hid (show ∀ r, (g ((i : Int) + 1)).getD rq0 = r → out ++ [r] = (List.range (i + 1)).map (fun (i : Nat) => (g ((i : Int) + 1)).getD rq0) from fun r hr => by rw [List.range_succ, List.map_append, ← HOU.out, List.map_singleton, hr])
            clear hlt
            cases hgs : g ((i : Int) + 1) with
            | none =>
              have q9 := HP.out.look_none keyed32d u_mapd (z_rq wr) (key32d HS.out) (fOfR_none hgs) false
              (simp only [Bool.false_eq_true, if_false, rqV, rq0] at q9)
              have HGG := hid (HOU2.out ⟨0, 0, 0, 0, 0⟩ (by rw [hgs]; rfl))
              clear hgs
              go_wp2_with (first
                | (at_builtin; refine wpList_moreR ⟨0, 0, 0, 0, 0⟩ rfl _ _ rfl rfl (HO.out.quiet (frm_box _ _)) (fun k hk => by have := HP.out.lt; simp; omega) (Blk.new wr (rqC ⟨0, 0, 0, 0, 0⟩) TRq) (by have := HLO.out; have := HLT.out; have := HN3.out; omega) rfl rfl ?_; intro v' w5 ho' hf' hat'; have HP2 := hid ((HP.out.frm (frm_box wr _) (fun h => h)).frm hf' (fun e => HO.out.off _ e (Nat.le_refl _))); have HF2 := hid ((HF.out.alloc HF.out.size _).trans (hf'.below (by have := HF.out.size; simp; omega) (fun k hk hn => HO.out.off k hn (Nat.le_of_lt hk)))); clear HF HO HP q9 hf' hat'; have HF := HF2; have HP := HP2; have HO := hid ho'; clear ho' HF2 HP2))
              go_roundw
              case rel => exact ⟨i + 1, _, by have := HLT.out; omega, by go_num, HGG.out, HO.out, HP.out, HF.out⟩
              case measure => simp [intOf]; have := HLT.out; omega
            | some r =>
              have q9 := HP.out.look_some keyed32d u_mapd (z_rq wr) (key32d HS.out) (fOfR_some hgs) false
              obtain ⟨c, t, k, y, v⟩ := r
              (simp only [Bool.false_eq_true, if_false, rqV] at q9)
              have HGG := hid (HOU2.out ⟨c, t, k, y, v⟩ (by rw [hgs]; rfl))
              clear hgs
              go_wp2_with (first
                | (at_builtin; refine wpList_moreR ⟨c, t, k, y, v⟩ rfl _ _ rfl rfl (HO.out.quiet (frm_box _ _)) (fun k hk => by have := HP.out.lt; simp; omega) (Blk.new wr (rqC ⟨c, t, k, y, v⟩) TRq) (by have := HLO.out; have := HLT.out; have := HN3.out; omega) rfl rfl ?_; intro v' w5 ho' hf' hat'; have HP2 := hid ((HP.out.frm (frm_box wr _) (fun h => h)).frm hf' (fun e => HO.out.off _ e (Nat.le_refl _))); have HF2 := hid ((HF.out.alloc HF.out.size _).trans (hf'.below (by have := HF.out.size; simp; omega) (fun k hk hn => HO.out.off k hn (Nat.le_of_lt hk)))); clear HF HO HP q9 hf' hat'; have HF := HF2; have HP := HP2; have HO := hid ho'; clear ho' HF2 HP2))
              go_roundw
              case rel => exact ⟨i + 1, _, by have := HLT.out; omega, by go_num, HGG.out, HO.out, HP.out, HF.out⟩
              case measure => simp [intOf]; have := HLT.out; omega
          · have hil : (n : Int) ≤ (i : Int) := by omega
            have HIN := hid (show i = n by omega)
            clear hlt
            go_wp2
            go_ret2
            refine ⟨?_, HF.out⟩
            rw [← HFN2.out, ← HIN.out, ← HOU.out]
            exact ⟨_, rfl, HO.out.own, fun k hk h => HO.out.off k hk (Nat.le_of_lt h)⟩
      · have HZN := hid (show none = z by rw [← HFN.out, finF, if_neg hnm])
        have hn1 : ((n : Int) != most) = true := bne_iff_ne.2 hnm
        have hn2 : ((n : Int) == most) = false := beq_eq_false_iff_ne.2 hnm
        have hm1 := HMO.out.2
        have e64 : IntKind.u64.wrap most = most := by simp [IntKind.wrap, IntKind.bits, IntKind.signed]; omega
        clear HFN
        go_wp2
        go_ret2
        exact ⟨LRes_none HZN.out, HF.out⟩
end Go.Proofs.Ytljfbaakgjmmfaa
