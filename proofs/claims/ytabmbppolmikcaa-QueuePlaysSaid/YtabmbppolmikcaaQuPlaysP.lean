/- The two queues say the same. -/
import Derived.Test.YtabmbppolmikcaaQuRef
import Derived.Test.YtabmbppolmikcaaTypes
namespace Go.Proofs.Ytabmbppolmikcaa
open Go.RowKit Go.ChangeShapes
set_option linter.unusedVariables false
set_option linter.unusedSimpArgs false
set_option maxRecDepth 100000
theorem badR_map {L : List Qe} {n : Nat} (h : QI L n) (r : Rq) : badR (L.map (·.1)) r = (ofB L r.c && decide (r.t ≤ (ofR L r.c).t)) := by
  rw [Bool.eq_iff_iff]
  unfold badR
  rw [List.any_eq_true, Bool.and_eq_true, decide_eq_true_eq]
  constructor
  · rintro ⟨q, hq, hb⟩
    obtain ⟨e, he, rfl⟩ := List.mem_map.1 hq
    rw [Bool.and_eq_true, beq_iff_eq, decide_eq_true_eq] at hb
    have := h.of_some he
    rw [hb.1] at this
    exact ⟨this.1, by rw [this.2]; exact hb.2⟩
  · rintro ⟨hb, ht⟩
    obtain ⟨e, he, h1, h2⟩ := of_mem hb
    exact ⟨e.1, List.mem_map.2 ⟨e, he, rfl⟩, by rw [Bool.and_eq_true, beq_iff_eq, decide_eq_true_eq]; exact ⟨h2, by rw [h1]; exact ht⟩⟩
theorem keepR_map (L : List Qe) (c : Int) : keepR (L.map (·.1)) c = (dropC L c).map (·.1) := by
  unfold keepR dropC
  rw [List.filter_map]; rfl
theorem dnR_map {L : List Qe} {n : Nat} (h : QI L n) (c ts : Int) : dnR (L.map (·.1)) c ts = (doneL L c ts).map (·.1) := by
  have hf : dnR (L.map (·.1)) c ts = (L.filter fun e => !(e.1.c == c) || decide (ts < e.1.t)).map (·.1) := by unfold dnR; rw [List.filter_map]; rfl
  rw [hf]
  congr 1
  unfold doneL
  by_cases hb : (ofB L c && decide ((ofR L c).t ≤ ts)) = true
  · rw [if_pos hb]
    rw [Bool.and_eq_true, decide_eq_true_eq] at hb
    unfold dropC
    refine List.filter_congr fun e he => ?_
    by_cases hc : e.1.c = c
    · have := h.of_some he
      rw [hc] at this
      rw [this.2] at hb
      rw [beq_iff_eq.2 hc, decide_eq_false (by omega)]; rfl
    · rw [beq_eq_false_iff_ne.2 hc]; rfl
  · rw [if_neg hb]
    refine List.filter_eq_self.2 fun e he => ?_
    by_cases hc : e.1.c = c
    · have := h.of_some he
      rw [hc] at this
      rw [this.1, this.2, Bool.true_and, decide_eq_true_eq] at hb
      rw [decide_eq_true (by omega), Bool.or_true]
    · rw [beq_eq_false_iff_ne.2 hc]; rfl
def putL (L : List Qe) (n : Nat) (r : Rq) (z : Bool) : List Qe := if z = true then dropC L r.c ++ [(r, n)] else L
def putN (n : Nat) (z : Bool) : Nat := if z = true then n + 1 else n
theorem putN_le (n : Nat) (z : Bool) : putN n z ≤ n + 1 := by unfold putN; split <;> omega
theorem Put_any {w : World} {qb mb n : Nat} {L : List Qe} (h : IsQ w qb mb L n) (hn : n ≤ 100000) (r : Rq) (hr : RqOk r) (z : Bool) (hz : putB L r = z) :
    Calls Try.prog 8 #[.pointer (some ⟨qb, 0, none⟩), .agg #[.int .u8 r.c, .int .u32 r.t, .int .u8 r.k, .int .u8 r.y, .int .u16 r.v]] w fun e w' => e = .returned (.bool z) ∧ IsQ w' qb mb (putL L n r z) (putN n z) ∧ Frm (Two qb mb) w w' := by
  cases z
  · refine (Put_no h hn r hr hz).mono ?_
    rintro e w' ⟨rfl, h1, h2⟩
    exact ⟨rfl, h1, h2.mono (fun _ _ h => h.elim)⟩
  · exact Put_yes h hn r hr hz
theorem RPut_any {w : World} {rb n : Nat} {v : Value} {L : List Qe} (h : IsRQ w rb v (L.map (·.1))) (hI : QI L n) (r : Rq) (z : Bool) (hz : putB L r = z) :
    Calls Try.prog 13 #[.pointer (some ⟨rb, 0, none⟩), .agg #[.int .u8 r.c, .int .u32 r.t, .int .u8 r.k, .int .u8 r.y, .int .u16 r.v]] w fun e w' => e = .returned (.bool z) ∧ (∃ v', IsRQ w' rb v' ((putL L n r z).map (·.1))) ∧ Frm (· = rb) w w' := by
  have hl : (L.map (·.1)).length ≤ 4 := by rw [List.length_map]; exact hI.few
  unfold putB at hz
  rw [← badR_map hI] at hz
  cases hre : isReal r.c r.t r.k r.y r.v
  · rw [hre, Bool.false_and] at hz
    subst hz
    refine (RPut_unreal h r hre).mono ?_
    rintro e w' ⟨rfl, h1, h2⟩
    exact ⟨rfl, ⟨v, h1⟩, h2.mono (fun _ _ h => h.elim)⟩
  · rw [hre, Bool.true_and] at hz
    cases hb : badR (L.map (·.1)) r
    · rw [hb] at hz
      subst hz
      refine (RPut_yes h hl r hre hb).mono ?_
      rintro e w' ⟨rfl, ⟨v', h1⟩, h2⟩
      refine ⟨rfl, ⟨v', ?_⟩, h2⟩
      unfold putL
      rw [Bool.not_false, if_pos rfl, List.map_append, ← keepR_map]
      exact h1
    · rw [hb] at hz
      subst hz
      refine (RPut_bad h hl r hre hb).mono ?_
      rintro e w' ⟨rfl, h1, h2⟩
      exact ⟨rfl, ⟨v, h1⟩, h2.mono (fun _ _ h => h.elim)⟩
theorem RDone_any {w : World} {rb n : Nat} {v : Value} {L : List Qe} (h : IsRQ w rb v (L.map (·.1))) (hI : QI L n) (c ts : Int) (L' : List Qe) (hL : doneL L c ts = L') :
    Calls Try.prog 15 #[.pointer (some ⟨rb, 0, none⟩), .int .u8 c, .int .u32 ts] w fun e w' => e = .returned (.tuple #[]) ∧ (∃ v', IsRQ w' rb v' (L'.map (·.1))) ∧ Frm (· = rb) w w' := by
  have := RDone_calls h (by rw [List.length_map]; exact hI.few) c ts
  rw [dnR_map hI, hL] at this
  exact this
abbrev StX : Type := Int × (Int × Int × (Int × Int × Int × Unit) × Unit) × Unit
theorem list6 {cs : List Value} {a b c d e f : Value} (hl : cs.length = 6) (h0 : cs[0]? = some a) (h1 : cs[1]? = some b) (h2 : cs[2]? = some c) (h3 : cs[3]? = some d) (h4 : cs[4]? = some e) (h5 : cs[5]? = some f) : cs = [a, b, c, d, e, f] := by
  match cs, hl with
  | [_, _, _, _, _, _], _ =>
    simp at h0 h1 h2 h3 h4 h5
    subst h0 h1 h2 h3 h4 h5
    rfl
theorem bnd16 {x : Int} (h : (Lit.int .u16 x).wf = true) : 0 ≤ x ∧ x ≤ 65535 := by simp [Lit.wf, IntKind.min, IntKind.max, IntKind.bits, IntKind.signed] at h; omega
theorem bnd8' {x : Int} (h : (Lit.int .u8 x).wf = true) : 0 ≤ x ∧ x ≤ 255 := by simp [Lit.wf, IntKind.min, IntKind.max, IntKind.bits, IntKind.signed] at h; omega
theorem bnd32' {x : Int} (h : (Lit.int .u32 x).wf = true) : 0 ≤ x ∧ x ≤ 4294967295 := by simp [Lit.wf, IntKind.min, IntKind.max, IntKind.bits, IntKind.signed] at h; omega
theorem st_is {w : World} {x : StX} {cs : List Value} (h : c44.K w x cs) : ∃ (a : Int) (r : Rq), cs = [.int .i64 a, .int .u8 r.c, .int .u32 r.t, .int .u8 r.k, .int .u8 r.y, .int .u16 r.v] ∧ RqOk r := by
  obtain ⟨hl, h0, _, h1⟩ := k44 h
  obtain ⟨_, g0, b0, g1, b1, h2⟩ := k33 h1
  obtain ⟨_, e0, d0, e1, d1, e2, d2⟩ := k31 h2
  rw [List.getElem?_take, if_pos (by decide), List.getElem?_drop] at g0 g1 e0 e1 e2
  rw [List.getElem?_take, if_pos (by decide), List.getElem?_drop] at e0 e1 e2
  exact ⟨x.1, ⟨x.2.1.1, x.2.1.2.1, x.2.1.2.2.1.1, x.2.1.2.2.1.2.1, x.2.1.2.2.1.2.2.1⟩, list6 hl h0 g0 g1 e0 e1 e2, bnd8' b0, bnd32' b1, bnd8' d0, bnd8' d1, bnd16 d2⟩
def anyR (R : List Rq) (r : Rq) : Bool := R.any (·.eqb r)
theorem anyR_step {R : List Rq} {k : Nat} {x : Rq} (r : Rq) (hx : R[k]? = some x) : anyR (R.take (k + 1)) r = (anyR (R.take k) r || x.eqb r) := by
  unfold anyR; rw [take_one hx, List.any_append]; simp
end Go.Proofs.Ytabmbppolmikcaa
