/- A row of things, as the document writes it. -/
import Derived.Test.YtifhjdjjekeegaaWireTwo
namespace Go.Proofs.Ytifhjdjjekeegaa
open Go.RowKit Go.ChangeShapes
set_option linter.unusedVariables false
set_option linter.unusedSimpArgs false
theorem SlK.ints {w : World} {a : Option Addr} {n : Nat} {x : List Int} (h : SlK c5 w a n x) : IsInts .u8 w a n x := by
  refine ⟨h.le, h.small, fun hn => ?_, fun y hy => ?_⟩
  · obtain ⟨b, off, rfl, hb, hc⟩ := h.at_ hn
    refine ⟨b, off, rfl, hb, fun i hi => ?_⟩
    obtain ⟨cs, ⟨rfl, _⟩, hcell⟩ := hc i x[i] (List.getElem?_eq_getElem hi)
    have := hcell 0 _ rfl
    rw [cells5, Nat.mul_one, Nat.add_zero] at this
    rw [this, List.getD_eq_getElem?_getD, List.getElem?_eq_getElem hi]
    rfl
  · obtain ⟨i, hi, rfl⟩ := List.mem_iff_getElem.1 hy
    obtain ⟨b, off, rfl, hb, hc⟩ := h.at_ (by omega)
    obtain ⟨cs, ⟨_, hw⟩, _⟩ := hc i x[i] (List.getElem?_eq_getElem hi)
    exact hw
theorem wrap_u16 (n : Int) : IntKind.u16.wrap n = n % 65536 := by simp [IntKind.wrap, IntKind.bits, IntKind.signed]
theorem wrap_u32 (n : Int) : IntKind.u32.wrap n = n % 4294967296 := by simp [IntKind.wrap, IntKind.bits, IntKind.signed]
abbrev Itm : Type := Int × Int × (List Int) × Int × Unit
def encI (t : Itm) : List Int :=
  if Go.bits .and .i64 t.1 7 = 0 then be (IntKind.u8.wrap t.2.1) 1 else if Go.bits .and .i64 t.1 7 = 1 then be (IntKind.u16.wrap t.2.1) 2 else if Go.bits .and .i64 t.1 7 = 2 then be (IntKind.u32.wrap t.2.1) 4 else
    if Go.bits .and .i64 t.1 7 = 3 then be t.2.1 8 else be (t.2.2.1.length : Int) 2 ++ t.2.2.1
def encs (l : List Itm) : List Int := l.flatMap encI
theorem encI_eq (wh nn : Int) (bs : List Int) (mo : Int) (q : Int) (hq : Go.bits .and .i64 wh 7 = q) :
    (q = 0 → ∀ n, IntKind.u8.wrap nn = n → encI (wh, nn, bs, mo, ()) = be n 1) ∧ (q = 1 → ∀ n, IntKind.u16.wrap nn = n → encI (wh, nn, bs, mo, ()) = be n 2) ∧ (q = 2 → ∀ n, IntKind.u32.wrap nn = n → encI (wh, nn, bs, mo, ()) = be n 4) ∧
    (q = 3 → encI (wh, nn, bs, mo, ()) = be nn 8) ∧ (q ≠ 0 → q ≠ 1 → q ≠ 2 → q ≠ 3 → encI (wh, nn, bs, mo, ()) = be (bs.length : Int) 2 ++ bs) := by
  refine ⟨?_, ?_, ?_, ?_, ?_⟩
  · rintro rfl n rfl; unfold encI; rw [if_pos hq]
  · rintro rfl n rfl; unfold encI; rw [if_neg (by rw [hq]; decide), if_pos hq]
  · rintro rfl n rfl; unfold encI; rw [if_neg (by rw [hq]; decide), if_neg (by rw [hq]; decide), if_pos hq]
  · rintro rfl; unfold encI; rw [if_neg (by rw [hq]; decide), if_neg (by rw [hq]; decide), if_neg (by rw [hq]; decide), if_pos hq]
  · intro g0 g1 g2 g3; unfold encI; rw [if_neg (by rw [hq]; exact g0), if_neg (by rw [hq]; exact g1), if_neg (by rw [hq]; exact g2), if_neg (by rw [hq]; exact g3)]
theorem encI_len (t : Itm) (h : t.2.2.1.length ≤ 300) : (encI t).length ≤ 310 := by
  unfold encI
  (repeat' split) <;> simp [be_len] <;> omega
theorem encs_len (l : List Itm) (h : ∀ t ∈ l, t.2.2.1.length ≤ 300) : (encs l).length ≤ 310 * l.length := by
  induction l with
  | nil => simp [encs]
  | cons t l ih =>
    have h1 := encI_len t (h t List.mem_cons_self)
    have h2 := ih (fun u hu => h u (List.mem_cons_of_mem _ hu))
    unfold encs at *
    rw [List.flatMap_cons, List.length_append, List.length_cons]
    omega
theorem encs_take (l : List Itm) (k : Nat) (h : k < l.length) : encs (l.take (k + 1)) = encs (l.take k) ++ encI (l.getD k (0, 0, [], 0, ())) := by
  rw [List.take_add_one, List.getElem?_eq_getElem h, List.getD_eq_getElem?_getD, List.getElem?_eq_getElem h]
  unfold encs
  rw [List.flatMap_append]
  simp only [Option.toList_some, List.flatMap_cons, List.flatMap_nil, List.append_nil, Option.getD_some]
theorem encs_drop (l : List Itm) (k : Nat) (h : k < l.length) : encs (l.drop k) = encI (l.getD k (0, 0, [], 0, ())) ++ encs (l.drop (k + 1)) := by
  rw [List.drop_eq_getElem_cons h, List.getD_eq_getElem?_getD, List.getElem?_eq_getElem h]
  rfl
theorem encs_drop_len (l : List Itm) (k : Nat) (h : k < l.length) : True := trivial
theorem short_take (l : List Itm) (k : Nat) (t : Itm) (ht : l[k]? = some t) (h : ∀ t ∈ l.take k, t.2.2.1.length ≤ 300) (hs : t.2.2.1.length ≤ 300) : ∀ t ∈ l.take (k + 1), t.2.2.1.length ≤ 300 := by
  intro u hu
  rw [List.take_add_one, ht] at hu
  rcases List.mem_append.1 hu with hu | hu
  · exact h u hu
  · simp at hu; subst hu; exact hs
theorem vOf_be8 (n : Int) (h0 : 0 ≤ n) (h1 : n < 18446744073709551616) : vOf (be n 8) = n := by
  show vStep (vStep (vStep (vStep (vStep (vStep (vStep (vStep 0 (n / 72057594037927936 % 256)) (n / 281474976710656 % 256)) (n / 1099511627776 % 256)) (n / 4294967296 % 256)) (n / 16777216 % 256)) (n / 65536 % 256)) (n / 256 % 256)) (n / 1 % 256) = n
  obtain ⟨a1, h⟩ : ∃ a, a = vStep 0 (n / 72057594037927936 % 256) := ⟨_, rfl⟩
  rw [← h]; rw [vStep_eq 0 _ (by omega) (by omega) (by omega) (by omega)] at h
  obtain ⟨a2, h2⟩ : ∃ a, a = vStep a1 (n / 281474976710656 % 256) := ⟨_, rfl⟩
  rw [← h2]; rw [vStep_eq a1 _ (by omega) (by omega) (by omega) (by omega)] at h2
  obtain ⟨a3, h3⟩ : ∃ a, a = vStep a2 (n / 1099511627776 % 256) := ⟨_, rfl⟩
  rw [← h3]; rw [vStep_eq a2 _ (by omega) (by omega) (by omega) (by omega)] at h3
  obtain ⟨a4, h4⟩ : ∃ a, a = vStep a3 (n / 4294967296 % 256) := ⟨_, rfl⟩
  rw [← h4]; rw [vStep_eq a3 _ (by omega) (by omega) (by omega) (by omega)] at h4
  obtain ⟨a5, h5⟩ : ∃ a, a = vStep a4 (n / 16777216 % 256) := ⟨_, rfl⟩
  rw [← h5]; rw [vStep_eq a4 _ (by omega) (by omega) (by omega) (by omega)] at h5
  obtain ⟨a6, h6⟩ : ∃ a, a = vStep a5 (n / 65536 % 256) := ⟨_, rfl⟩
  rw [← h6]; rw [vStep_eq a5 _ (by omega) (by omega) (by omega) (by omega)] at h6
  obtain ⟨a7, h7⟩ : ∃ a, a = vStep a6 (n / 256 % 256) := ⟨_, rfl⟩
  rw [← h7]; rw [vStep_eq a6 _ (by omega) (by omega) (by omega) (by omega)] at h7
  rw [vStep_eq a7 _ (by omega) (by omega) (by omega) (by omega)]
  omega
theorem Two.start {w : World} {A : Nat → Prop} {b : Nat} (h : IsWr w b A []) : Two w A b (.slice none 0 0) [] [] := by
  obtain ⟨u, h1, h2, h3⟩ := h.blk
  exact ⟨u, h1, ⟨h2.own, fun k hk hk2 => hk2.elim (h2.off k hk) (fun h => by simp [Value.ownBlock] at h), h2.wf⟩, h3, OwnB.nil _ _, h.nA⟩
theorem hA_sb {w a : World} {sb : Nat} {cs : List Value} {T : Nat} (h : Below w.heap.size w a) (h3 : Blk a sb cs T) : ∀ k, (k < w.heap.size ∨ k = sb) → k < a.heap.size := by
  rintro k (hk | rfl)
  · exact Nat.lt_of_lt_of_le hk h.size
  · exact h3.lt
theorem below_sb {w a c : World} {sb : Nat} (h : Below w.heap.size w a) (f : Frm (fun k => ¬ (k < w.heap.size ∨ k = sb)) a c) : Below w.heap.size w c := below_frm h f (fun k hk hn => hn (.inl hk))
theorem conv_two {w : World} {A : Nat → Prop} {b : Nat} {a : Option Addr} {c : Nat} {x y : List Int} (h : Two w A b (.slice a y.length c) x y) : (convert 25 9 (.slice a y.length c)).run Try.prog w = .ok (.string (strOfNums y)) w := by
  obtain ⟨a', c', e, hi⟩ := h.bytes
  cases e
  exact hi.conv
theorem step_two {ops : Array Oper} {o : Oper} {a : Act} {w : World} {K : Act → World → Prop} {Q : Exit → Act → World → Prop} {E : Prop} {A : Nat → Prop} {b : Nat} {v : Value} {xs ys z : List Int} {ad : Option Addr} {c m : Nat} (hgd : o.guard = none) (s x : Operand)
    (ho : o.op = .call { callee := .builtin .append, args := #[s, x], argTypes := #[25, 25] }) (ht : o.type = 25) (h : Two w A b v xs ys) (hA : ∀ k, A k → k < w.heap.size) (hz : IsInts .u8 w ad c z) (hm : z.length = m) (hl : ys.length + m ≤ 140737488355328)
    (hs : a.eval s = v) (hx : a.eval x = .slice ad m c) (hK : ∀ a' l' c' w', Two w' A b (.slice a' l' c') xs (ys ++ z) → Frm (fun k => ¬ A k) w w' → K (a.put o.dst (.slice a' l' c')) w') :
    if Region.wanted o (yielded ops a.tmps) = true then Oper.wp Try.prog o a w K Q else E := by
  obtain ⟨u, g1, g2, g3, g4, g5⟩ := h.ex
  have hA2 : ∀ k, (A k ∨ k = b ∨ u.ownBlock = some k) → k < w.heap.size := fun k hk => by
    rcases hk with hk | rfl | hk
    · exact hA k hk
    · exact g1.lt
    · exact g2.lt hk
  refine step_more hgd s x ho ht g4 hA2 hz hm hl hs hx (fun a' l' c' w' h' f' _ => ?_)
  have f2 : Frm (fun k => ¬ (A k ∨ k = b ∨ u.ownBlock = some k)) w w' := f'.mono fun k _ hk => g4.off k hk
  exact hK a' l' c' w' (Two.put g1 g2 g3 g5 h' f2) (f2.mono fun k _ hk hk2 => hk (.inl hk2))
end Go.Proofs.Ytifhjdjjekeegaa
