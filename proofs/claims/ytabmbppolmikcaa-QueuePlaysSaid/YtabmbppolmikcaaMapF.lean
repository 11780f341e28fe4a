/- Maps in memory, as functions: what stands at which key; how many; ranging over them. -/
import Derived.Test.YtabmbppolmikcaaLib
import Derived.Test.YtabmbppolmikcaaProg
import Derived.Maps.RangeWalk
import Derived.Maps.OwnSet
import Derived.Maps.OwnOps
namespace Go.Proofs.Ytabmbppolmikcaa
open Go.RowKit Go.ChangeShapes Go.ChangeMaps Go.MapKept Go.WideShapes
open Go.WideElems (Fit rd rg pl rd_key rd_val rg_of other_key)
open Go.Maps (Keyed)
set_option maxRecDepth 20000
set_option linter.unusedVariables false
/-- Any value reads as itself. -/
def rv (v : Value) : Option (DataW Value × List MemPlace) := some (.held v, [])
/-- What the entries say: f. -/
def Says (es : Array MapEntry) (f : Value → Option Value) : Prop := ∀ key v, f key = some v ↔ ∃ x ∈ es.toList, x.key = key ∧ x.val = v
/-- Block b is a map of n entries; f: what stands at which key. -/
structure IsMp (k : TypeId) (w : World) (b n : Nat) (f : Value → Option Value) : Prop where
  ex : ∃ es clock, w.heap[b]? = some (.map es clock) ∧ Fit Try.prog k rv es clock ∧ es.size = n ∧ Says es f
/-- f' is f but at key: there r stands. -/
structure IsUpd (f f' : Value → Option Value) (key : Value) (r : Option Value) : Prop where
  eq : f' key = r
  ne : ∀ x, x ≠ key → f' x = f x
theorem IsMp.made (k : TypeId) (w : World) : IsMp k (w.alloc (.map #[] 0)) w.heap.size 0 (fun _ => none) :=
  ⟨#[], 0, (MapKept.heap_alloc w _).1, ⟨by simp, stamped_empty 0, by simp⟩, rfl, fun key v => by simp⟩
theorem IsMp.lt {k : TypeId} {w : World} {b n : Nat} {f : Value → Option Value} (h : IsMp k w b n f) : b < w.heap.size := by
  obtain ⟨es, clock, hb, _⟩ := h.ex
  exact (Array.getElem?_eq_some_iff.1 hb).1
theorem IsMp.frm {S : Nat → Prop} {k : TypeId} {w w' : World} {b n : Nat} {f : Value → Option Value} (h : IsMp k w b n f) (g : Frm S w w') (hb : ¬ S b) : IsMp k w' b n f := by
  have hl := h.lt
  obtain ⟨es, clock, h0, F, hn, hf⟩ := h.ex
  exact ⟨es, clock, (g.block b hl hb).trans h0, F, hn, hf⟩
theorem IsMp.not_blk {k : TypeId} {w : World} {b n b' T : Nat} {f : Value → Option Value} {cs : List Value} (h : IsMp k w b n f) (hb : Blk w b' cs T) : b ≠ b' := by
  rintro rfl
  obtain ⟨es, clock, h0, _⟩ := h.ex
  unfold Blk at hb
  rw [h0] at hb
  cases hb
section
variable {k e t : TypeId} {w : World} {b n : Nat} {f : Value → Option Value}
theorem IsMp.none_of {es : Array MapEntry} (hf : Says es f) {key : Value} (h : ∀ x ∈ es.toList, x.key ≠ key) : f key = none := by
  cases hk : f key with
  | none => rfl
  | some v =>
    obtain ⟨x, hx, he, _⟩ := (hf key v).1 hk
    exact absurd he (h x hx)
/-- m[key], nothing there. -/
theorem IsMp.look_none (h : IsMp k w b n f) (K : Keyed Try.prog k) (ht : Try.prog.underlying t = some (.map k e)) {z : Value} (hz : (zeroValue e).run Try.prog w = .ok z w) {key : Value} {kl : Lit} (hkey : keyOf Try.prog k key = some kl) (hf : f key = none) (c : Bool) :
    (Instr.lookup t (.map (some b)) key c).run Try.prog w = .ok (if c then .tuple #[z, .bool false] else z) w := by
  obtain ⟨es, clock, hb, F, _, hs⟩ := h.ex
  rcases Maps.fit_look c K ht hz hb F hkey with ⟨hrun, _, _⟩ | ⟨e0, y, h0, h1, hrun, _, _, _⟩
  · exact hrun
  · have := (hs key e0.val).2 ⟨e0, h0, h1, rfl⟩
    rw [hf] at this
    cases this
/-- m[key], v there. -/
theorem IsMp.look_some (h : IsMp k w b n f) (K : Keyed Try.prog k) (ht : Try.prog.underlying t = some (.map k e)) {z : Value} (hz : (zeroValue e).run Try.prog w = .ok z w) {key : Value} {kl : Lit} (hkey : keyOf Try.prog k key = some kl) {v : Value} (hf : f key = some v) (c : Bool) :
    (Instr.lookup t (.map (some b)) key c).run Try.prog w = .ok (if c then .tuple #[v, .bool true] else v) w := by
  obtain ⟨es, clock, hb, F, _, hs⟩ := h.ex
  rcases Maps.fit_look c K ht hz hb F hkey with ⟨hrun, hno, _⟩ | ⟨e0, y, h0, h1, hrun, _, _, _⟩
  · rw [IsMp.none_of hs hno] at hf
    cases hf
  · have := (hs key e0.val).2 ⟨e0, h0, h1, rfl⟩
    rw [hf] at this
    cases this
    exact hrun
theorem Says.key_inj (K : Keyed Try.prog k) {es es' : Array MapEntry} {c c' : Nat} (F : Fit Try.prog k rv es c) (F' : Fit Try.prog k rv es' c') {x x' : MapEntry} (hx : x ∈ es.toList) (hx' : x' ∈ es'.toList) (he : rg Try.prog k rv x = rg Try.prog k rv x') : x.key = x'.key ∧ x.val = x'.val := by
  obtain ⟨y, hy⟩ := F.reads x hx
  obtain ⟨y', hy'⟩ := F'.reads x' hx'
  rw [rg_of hy, rg_of hy'] at he
  subst he
  refine ⟨K.inj (rd_key hy) (rd_key hy'), ?_⟩
  obtain ⟨z, hz, e1⟩ := rd_val hy
  obtain ⟨z', hz', e2⟩ := rd_val hy'
  unfold rv at hz hz'
  cases hz
  cases hz'
  rw [e1] at e2
  injection e2
/-- m[key] = val. -/
theorem IsMp.upd (h : IsMp k w b n f) (K : Keyed Try.prog k) (ht : Try.prog.underlying t = some (.map k e)) (hn : n < 9223372036854775807) {key : Value} {kl : Lit} (hkey : keyOf Try.prog k key = some kl) {val : Value} {f' : Value → Option Value} (hu : IsUpd f f' key (some val)) :
    ∃ w', (Instr.mapUpdate t (.map (some b)) key val).run Try.prog w = .ok () w' ∧ IsMp k w' b (if f key = none then n + 1 else n) f' ∧ Frm (· = b) w w' ∧ w'.heap.size = w.heap.size := by
  obtain ⟨es, clock, hb, F, hsz, hs⟩ := h.ex
  obtain ⟨es', clock', hrun, F', hput, _, _, hwho⟩ := Maps.fit_store (R := rv) (R' := rv) K ht hb F (by unfold maxLen; omega) (fun _ _ _ _ hz => hz) hkey (show rv val = some (.held val, []) from rfl)
  have mem' : ∀ p, p ∈ es'.toList.map (rg Try.prog k rv) ↔ p = (kl, .held val) ∨ (p ∈ es.toList.map (rg Try.prog k rv) ∧ notKey kl p = true) := fun p => by
    rw [← mem_sorted, hput]
    unfold putKey
    rw [mem_insert_iff, List.mem_filter, mem_sorted]
  have old : ∀ x ∈ es.toList, x.key ≠ key → notKey kl (rg Try.prog k rv x) = true := fun x hx hne => by
    obtain ⟨y, hy⟩ := F.reads x hx
    refine (Maps.notKey_iff (K.key hkey)).2 fun e1 => hne ?_
    rw [rg_of hy] at e1
    exact K.inj (e1 ▸ rd_key hy) hkey
  have hsays : Says es' f' := by
    intro key2 v2
    by_cases e2 : key2 = key
    · subst e2
      rw [hu.eq]
      constructor
      · intro hv
        cases hv
        obtain ⟨x, hx, hxe⟩ := List.mem_map.1 ((mem' (kl, .held val)).2 (.inl rfl))
        refine ⟨x, hx, ?_⟩
        obtain ⟨y, hy⟩ := F'.reads x hx
        rw [rg_of hy] at hxe
        subst hxe
        refine ⟨K.inj (rd_key hy) hkey, ?_⟩
        obtain ⟨z, hz, e1⟩ := rd_val hy
        unfold rv at hz
        cases hz
        injection e1 with e1
        exact e1.symm
      · rintro ⟨x, hx, hk, hv⟩
        rcases hwho x hx with ⟨_, hne⟩ | ⟨_, hv'⟩
        · exact absurd hk hne
        · rw [← hv, hv']
    · rw [hu.ne _ e2, hs key2 v2]
      constructor
      · rintro ⟨x, hx, hk, hv⟩
        have hm := (mem' (rg Try.prog k rv x)).2 (.inr ⟨List.mem_map.2 ⟨x, hx, rfl⟩, old x hx (by rw [hk]; exact e2)⟩)
        obtain ⟨x', hx', he⟩ := List.mem_map.1 hm
        obtain ⟨h1, h2⟩ := Says.key_inj K F' F hx' hx he
        exact ⟨x', hx', h1.trans hk, h2.trans hv⟩
      · rintro ⟨x, hx, hk, hv⟩
        rcases hwho x hx with ⟨ho, _⟩ | ⟨hk', _⟩
        · exact ⟨x, ho, hk, hv⟩
        · exact absurd (hk.symm.trans hk') e2
  have hsize : es'.size = if f key = none then n + 1 else n := by
    have h1 : es'.size = ((es.toList.map (rg Try.prog k rv)).filter (notKey kl)).length + 1 := by
      rw [← length_read (P := Try.prog) (k := k) (R0 := rv) es', hput]
      unfold putKey
      rw [length_insert, (((sorted_perm (es.toList.map (rg Try.prog k rv))).filter (notKey kl))).length_eq]
    cases hk : f key with
    | none =>
      rw [if_pos rfl, h1, Maps.filter_all K F hkey (fun x hx e1 => by have := (hs key x.val).2 ⟨x, hx, e1, rfl⟩; rw [hk] at this; cases this)]
      rw [List.length_map, Array.length_toList, hsz]
    | some v =>
      obtain ⟨x, hx, hxk, hxv⟩ := (hs key v).1 hk
      obtain ⟨j, hj⟩ := List.getElem?_of_mem hx
      rw [if_neg (by simp), h1, Maps.filter_one K F hkey hj hxk, List.length_eraseIdx, List.length_map, Array.length_toList, hsz]
      have hjl : j < es.toList.length := (List.getElem?_eq_some_iff.1 hj).1
      rw [Array.length_toList, hsz] at hjl
      rw [if_pos hjl]
      omega
  exact ⟨_, hrun, ⟨es', clock', heap_setBlock_same hb _, F', hsize, hsays⟩, ⟨rfl, rfl, rfl, by simp [setBlock], fun i _ hi => heap_setBlock_other hb _ hi⟩, by simp [setBlock]⟩
/-- delete(m, key). -/
theorem IsMp.del (h : IsMp k w b n f) (K : Keyed Try.prog k) (ht : Try.prog.underlying t = some (.map k e)) {key : Value} {kl : Lit} (hkey : keyOf Try.prog k key = some kl) {f' : Value → Option Value} (hu : IsUpd f f' key none) (ty : TypeId) :
    ∃ w', (Builtin.delete_ #[t, k] ty #[.map (some b), key]).run Try.prog w = .ok (.tuple #[]) w' ∧ IsMp k w' b (if f key = none then n else n - 1) f' ∧ Frm (· = b) w w' ∧ w'.heap.size = w.heap.size := by
  obtain ⟨es, clock, hb, F, hsz, hs⟩ := h.ex
  obtain ⟨es', hrun, F', hle, hdel, hsub, hwho⟩ := fit_drop_who (ty := ty) K ht hb F hkey
  have hsays : Says es' f' := by
    intro key2 v2
    by_cases e2 : key2 = key
    · subst e2
      rw [hu.eq]
      constructor
      · intro hv; cases hv
      · rintro ⟨x, hx, hk, _⟩
        exact absurd hk ((hwho x).1 hx).2
    · rw [hu.ne _ e2, hs key2 v2]
      constructor
      · rintro ⟨x, hx, hk, hv⟩
        exact ⟨x, (hwho x).2 ⟨hx, by rw [hk]; exact e2⟩, hk, hv⟩
      · rintro ⟨x, hx, hk, hv⟩
        exact ⟨x, ((hwho x).1 hx).1, hk, hv⟩
  have hsize : es'.size = if f key = none then n else n - 1 := by
    have h1 : es'.size = ((es.toList.map (rg Try.prog k rv)).filter (notKey kl)).length := by
      rw [← length_read (P := Try.prog) (k := k) (R0 := rv) es', hdel]
      unfold delKey
      rw [(((sorted_perm (es.toList.map (rg Try.prog k rv))).filter (notKey kl))).length_eq]
    cases hk : f key with
    | none =>
      rw [if_pos rfl, h1, Maps.filter_all K F hkey (fun x hx e1 => by have := (hs key x.val).2 ⟨x, hx, e1, rfl⟩; rw [hk] at this; cases this)]
      rw [List.length_map, Array.length_toList, hsz]
    | some v =>
      obtain ⟨x, hx, hxk, hxv⟩ := (hs key v).1 hk
      obtain ⟨j, hj⟩ := List.getElem?_of_mem hx
      rw [if_neg (by simp), h1, Maps.filter_one K F hkey hj hxk, List.length_eraseIdx, List.length_map, Array.length_toList, hsz]
      have hjl : j < es.toList.length := (List.getElem?_eq_some_iff.1 hj).1
      rw [Array.length_toList, hsz] at hjl
      rw [if_pos hjl]
  exact ⟨_, hrun, ⟨es', clock, heap_setBlock_same hb _, F', hsize, hsays⟩, ⟨rfl, rfl, rfl, by simp [setBlock], fun i _ hi => heap_setBlock_other hb _ hi⟩, by simp [setBlock]⟩
/-- len(m). -/
theorem IsMp.len (h : IsMp k w b n f) (ht : Try.prog.underlying t = some (.map k e)) (ty : TypeId) : (Builtin.len_ #[t] ty #[.map (some b)]).run Try.prog w = .ok (.int .i64 n) w := by
  obtain ⟨es, clock, hb, F, hsz, hs⟩ := h.ex
  have := World.ownsMap.len (H := Value) (P := Try.prog) (k := k) (R := rv) (n := n) ⟨es, clock, hb, F, by omega, rfl⟩ ht ty
  rw [this, show Maps.size (DataW.map ((es.toList.map (rg Try.prog k rv)).foldr DataW.insert [])) = n by show (List.length _) = _; rw [length_read, hsz]]
/-- The keys, each once. -/
theorem IsMp.keys (h : IsMp k w b n f) : ∃ L : List Value, L.length = n ∧ L.Pairwise (· ≠ ·) ∧ ∀ key, key ∈ L ↔ f key ≠ none := by
  obtain ⟨es, clock, hb, F, hsz, hs⟩ := h.ex
  refine ⟨es.toList.map (·.key), by rw [List.length_map, Array.length_toList, hsz], List.pairwise_map.2 ((stamped_iff es clock).1 F.stamped).2.2, fun key => ?_⟩
  constructor
  · intro hk
    obtain ⟨x, hx, rfl⟩ := List.mem_map.1 hk
    rw [(hs x.key x.val).2 ⟨x, hx, rfl, rfl⟩]
    simp
  · intro hk
    obtain ⟨v, hv⟩ := Option.ne_none_iff_exists'.1 hk
    obtain ⟨x, hx, he, _⟩ := (hs key v).1 hv
    exact List.mem_map.2 ⟨x, hx, he⟩
/-- Every key that is there is a key of the type. -/
theorem IsMp.isKey (h : IsMp k w b n f) {key v : Value} (hf : f key = some v) : ∃ kl, keyOf Try.prog k key = some kl := by
  obtain ⟨es, clock, hb, F, hsz, hs⟩ := h.ex
  obtain ⟨x, hx, rfl, _⟩ := (hs key v).1 hf
  obtain ⟨y, hy⟩ := F.reads x hx
  exact ⟨_, rd_key hy⟩
end
/-- A range over the map is under way: left: which keys are still to come. -/
structure Rng (k : TypeId) (w : World) (b r n : Nat) (f : Value → Option Value) (left : Value → Prop) (cnt : Nat) : Prop where
  ex : ∃ es clock since seen c0, w.heap[b]? = some (.map es clock) ∧ Fit Try.prog k rv es clock ∧ es.size = n ∧ Says es f ∧ w.heap[r]? = some (.mapIter (some b) since seen c0) ∧ (∀ x ∈ es.toList, x.born < since) ∧ (leftOf es seen).size = cnt ∧
    (∀ x ∈ es.toList, left x.key ↔ seen.contains x.born = false) ∧ (∀ key, left key → ∃ x ∈ es.toList, x.key = key) ∧ since ≤ c0 ∧ since ≤ clock
section
variable {k e t : TypeId} {w : World} {b r n cnt : Nat} {f : Value → Option Value} {left : Value → Prop}
theorem Rng.mp (h : Rng k w b r n f left cnt) : IsMp k w b n f := by
  obtain ⟨es, clock, _, _, _, hb, F, hs, hf, _⟩ := h.ex
  exact ⟨es, clock, hb, F, hs, hf⟩
theorem Rng.ne (h : Rng k w b r n f left cnt) : r ≠ b := by
  obtain ⟨es, clock, since, seen, c0, hb, _, _, _, hr, _⟩ := h.ex
  intro e
  rw [e, hb] at hr
  cases hr
theorem Rng.lt (h : Rng k w b r n f left cnt) : r < w.heap.size := by
  obtain ⟨es, clock, since, seen, c0, _, _, _, _, hr, _⟩ := h.ex
  exact (Array.getElem?_eq_some_iff.1 hr).1
theorem Rng.left_eq (h : Rng k w b r n f left cnt) : w.rangeLeft b r = cnt := by
  obtain ⟨es, clock, since, seen, c0, hb, _, _, _, hr, _, hc, _⟩ := h.ex
  simp only [World.rangeLeft, hb, hr]
  exact hc
theorem Rng.frm {S : Nat → Prop} {w' : World} (h : Rng k w b r n f left cnt) (g : Frm S w w') (hb : ¬ S b) (hr : ¬ S r) : Rng k w' b r n f left cnt := by
  have h1 := h.mp.lt
  have h2 := h.lt
  obtain ⟨es, clock, since, seen, c0, h0, F, hs, hf, hr0, rest⟩ := h.ex
  exact ⟨es, clock, since, seen, c0, (g.block b h1 hb).trans h0, F, hs, hf, (g.block r h2 hr).trans hr0, rest⟩
theorem Rng.there (h : Rng k w b r n f left cnt) {key : Value} (hl : left key) : f key ≠ none := by
  obtain ⟨es, clock, since, seen, c0, hb, F, hs, hf, hr, _, _, _, hl2, _⟩ := h.ex
  obtain ⟨x, hx, rfl⟩ := hl2 key hl
  rw [(hf x.key x.val).2 ⟨x, hx, rfl, rfl⟩]
  simp
/-- range m. -/
theorem IsMp.range (h : IsMp k w b n f) (ht : Try.prog.underlying t = some (.map k e)) :
    ∃ w', (Instr.range t (.map (some b))).run Try.prog w = .ok (.pointer (some ⟨w.heap.size, 0, none⟩)) w' ∧ Rng k w' b w.heap.size n f (fun key => f key ≠ none) n ∧ Frm (fun _ => False) w w' ∧ w'.heap.size = w.heap.size + 1 := by
  have hlt := h.lt
  obtain ⟨es, clock, hb, F, hs, hf⟩ := h.ex
  refine ⟨_, run_range_map w t k e b es clock ht hb, ⟨es, clock, clock, #[], clock, ((MapKept.heap_alloc w _).2 b hlt).trans hb, F, hs, hf, (MapKept.heap_alloc w _).1, F.stamped.1, ?_, ?_, ?_, Nat.le_refl _, Nat.le_refl _⟩, (Frm.refl _ _).alloc _, by simp⟩
  · have : leftOf es #[] = es := by unfold leftOf; exact Array.filter_eq_self.2 (fun x _ => by simp)
    rw [this, hs]
  · intro x hx
    show f x.key ≠ none ↔ _
    rw [(hf x.key x.val).2 ⟨x, hx, rfl, rfl⟩]
    simp
  · intro key hk
    obtain ⟨v, hv⟩ := Option.ne_none_iff_exists'.1 hk
    obtain ⟨x, hx, he, _⟩ := (hf key v).1 hv
    exact ⟨x, hx, he⟩
def strike (left : Value → Prop) (key : Value) : Value → Prop := fun x => left x ∧ x ≠ key
theorem key_of_born {es : Array MapEntry} {clock : Nat} (F : Fit Try.prog k rv es clock) {x y : MapEntry} (hx : x ∈ es.toList) (hy : y ∈ es.toList) : x.key = y.key ↔ x.born = y.born := by
  have hst := (stamped_iff es clock).1 F.stamped
  constructor
  · intro e; rw [entry_eq_of_key hst.2.2 hx hy e]
  · intro e; rw [born_inj hst.2.1 hx hy e]
/-- The step. -/
theorem Rng.next (h : Rng k w b r n f left cnt) (ty : TypeId) :
    ((∀ key, ¬ left key) ∧ cnt = 0 ∧ (Instr.next (.pointer (some ⟨r, 0, none⟩)) false ty).run Try.prog w = .ok (.tuple #[.bool false]) w) ∨
    ∃ key v w' cnt', left key ∧ f key = some v ∧ (Instr.next (.pointer (some ⟨r, 0, none⟩)) false ty).run Try.prog w = .ok (.tuple #[.bool true, key, v]) w' ∧
      Rng k w' b r n f (strike left key) cnt' ∧ cnt' < cnt ∧ Frm (· = r) w w' ∧ w'.heap.size = w.heap.size ∧ (Instr.entry (.pointer (some ⟨r, 0, none⟩))).run Try.prog w' = .ok (.tuple #[key, v]) w' := by
  have hne := h.ne
  obtain ⟨es, clock, since, seen, c0, hb, F, hs, hf, hr, hold, rfl, hl1, hl2, hsc, hsk⟩ := h.ex
  rcases run_next_at (P := Try.prog) w ty r b since c0 seen es clock hr hb hold hsc with ⟨h0, hrun⟩ | ⟨x, hx, w1, hal, hrun⟩
  · refine .inl ⟨fun key hk => ?_, h0, hrun⟩
    obtain ⟨x, hx, rfl⟩ := hl2 key hk
    have := (hl1 x hx).1 hk
    rw [all_seen es seen h0 x hx] at this
    cases this
  · obtain ⟨hxm, hxs⟩ := mem_left hx
    have hr1 : w1.heap[r]? = some (.mapIter (some b) since seen c0) := by rcases hal with rfl | rfl <;> exact hr
    have hb1 : w1.heap[b]? = some (.map es clock) := by rcases hal with rfl | rfl <;> exact hb
    have hset := heap_set (o' := .mapIter (some b) since (seen.push x.born) clock) hr1
    have hb' : (setBlock w1 r (.mapIter (some b) since (seen.push x.born) clock)).heap[b]? = some (.map es clock) := (hset.2 b (fun e1 => hne e1.symm)).trans hb1
    refine .inr ⟨x.key, x.val, _, _, (hl1 x hxm).2 hxs, (hf x.key x.val).2 ⟨x, hxm, rfl, rfl⟩, hrun,
      ⟨es, clock, since, seen.push x.born, clock, hb', F, hs, hf, hset.1, hold, rfl, fun y hy => ?_, fun key hk => hl2 key hk.1, hsk, hsk⟩, left_shrinks es seen x hx, ?_, ?_,
      run_entry_at _ r b since seen es clock x hset.1 hb' hxm ((stamped_iff es clock).1 F.stamped).2.1⟩
    · rw [contains_push, Bool.or_eq_false_iff, ← hl1 y hy]
      show left y.key ∧ y.key ≠ x.key ↔ _
      refine and_congr_right fun _ => ?_
      rw [beq_eq_false_iff_ne, ne_eq, ne_eq, key_of_born F hy hxm]
    · rcases hal with rfl | rfl <;> exact ⟨rfl, rfl, rfl, by simp [setBlock], fun i _ hi => hset.2 i hi⟩
    · rcases hal with rfl | rfl <;> simp [setBlock]
/-- delete(m, key) in the round. -/
theorem Rng.del (h : Rng k w b r n f left cnt) (K : Keyed Try.prog k) (ht : Try.prog.underlying t = some (.map k e)) {key : Value} {kl : Lit} (hkey : keyOf Try.prog k key = some kl) (hl : ¬ left key) {f' : Value → Option Value} (hu : IsUpd f f' key none) (ty : TypeId) :
    ∃ w' cnt' n', (Builtin.delete_ #[t, k] ty #[.map (some b), key]).run Try.prog w = .ok (.tuple #[]) w' ∧ Rng k w' b r n' f' left cnt' ∧ cnt' ≤ cnt ∧ n' ≤ n ∧ Frm (· = b) w w' ∧ w'.heap.size = w.heap.size := by
  have hne := h.ne
  obtain ⟨es, clock, since, seen, c0, hb, F, hs, hf, hr, hold, rfl, hl1, hl2, hsc, hsk⟩ := h.ex
  obtain ⟨es', hrun, F', hle, hdel, hsub, hwho⟩ := fit_drop_who (ty := ty) K ht hb F hkey
  have hsays : Says es' f' := by
    intro key2 v2
    by_cases e2 : key2 = key
    · subst e2
      rw [hu.eq]
      constructor
      · intro hv; cases hv
      · rintro ⟨x, hx, hk, _⟩
        exact absurd hk ((hwho x).1 hx).2
    · rw [hu.ne _ e2, hf key2 v2]
      constructor
      · rintro ⟨x, hx, hk, hv⟩
        exact ⟨x, (hwho x).2 ⟨hx, by rw [hk]; exact e2⟩, hk, hv⟩
      · rintro ⟨x, hx, hk, hv⟩
        exact ⟨x, ((hwho x).1 hx).1, hk, hv⟩
  refine ⟨_, _, es'.size, hrun, ⟨es', clock, since, seen, c0, heap_setBlock_same hb _, F', rfl, hsays, (heap_setBlock_other hb _ hne).trans hr, fun x hx => hold x ((hwho x).1 hx).1, rfl, fun x hx => hl1 x ((hwho x).1 hx).1, fun key2 hk2 => ?_, hsc, hsk⟩, ?_, by omega, ⟨rfl, rfl, rfl, by simp [setBlock], fun i _ hi => heap_setBlock_other hb _ hi⟩, by simp [setBlock]⟩
  · obtain ⟨x, hx, rfl⟩ := hl2 key2 hk2
    refine ⟨x, (hwho x).2 ⟨hx, fun e1 => ?_⟩, rfl⟩
    exact hl (e1 ▸ hk2)
  · have e1 : ∀ a : Array MapEntry, (leftOf a seen).size = (a.toList.filter fun e => !seen.contains e.born).length := fun a => by
      unfold leftOf
      rw [← Array.toList_filter, Array.length_toList]
    rw [e1, e1]
    exact (hsub.filter _).length_le
end
section
variable {w : World} {ops : Array Oper} {rest : List Oper} {o : Oper} {a : Act} {Q : Exit → Act → World → Prop} {k e t : TypeId} {b r n cnt : Nat} {f : Value → Option Value} {left : Value → Prop}
/-- m[key] = val, at the operation. -/
theorem wpList_mp_upd (hg : o.guard = none) (m x v : Operand) (hop : o.op = Op.mapUpdate t m x v) (h : IsMp k w b n f) (K : Keyed Try.prog k) (ht : Try.prog.underlying t = some (.map k e)) (hn : n < 9223372036854775807) (key val : Value) (kl : Lit) (hkey : keyOf Try.prog k key = some kl) {f' : Value → Option Value} (hu : IsUpd f f' key (some val))
    (hm : a.eval m = .map (some b)) (hx : a.eval x = key) (hv : a.eval v = val)
    (hK : ∀ w', IsMp k w' b (if f key = none then n + 1 else n) f' → Frm (· = b) w w' → w'.heap.size = w.heap.size → wpList Try.prog ops Q rest (a.put o.dst undef) w') :
    wpList Try.prog ops Q (o :: rest) a w := by
  refine wpList_plain hg fun K' hK' => ?_
  obtain ⟨w', hrun, r1, r2, r3⟩ := h.upd K ht hn hkey hu
  unfold Oper.wp
  simp [execOp, hop, hm, hx, hv, hrun, Result.andThen]
  exact hK' _ _ (hK w' r1 r2 r3)
/-- delete(m, key), at the operation. -/
theorem wpList_mp_del (hg : o.guard = none) (m x : Operand) (hop : o.op = Op.call { callee := Callee.builtin Builtin.delete, args := #[m, x], argTypes := #[t, k] }) (h : IsMp k w b n f) (K : Keyed Try.prog k) (ht : Try.prog.underlying t = some (.map k e)) (key : Value) (kl : Lit) (hkey : keyOf Try.prog k key = some kl) {f' : Value → Option Value} (hu : IsUpd f f' key none)
    (hm : a.eval m = .map (some b)) (hx : a.eval x = key)
    (hK : ∀ w', IsMp k w' b (if f key = none then n else n - 1) f' → Frm (· = b) w w' → w'.heap.size = w.heap.size → wpList Try.prog ops Q rest (a.put o.dst (.tuple #[])) w') :
    wpList Try.prog ops Q (o :: rest) a w := by
  refine wpList_plain hg fun K' hK' => ?_
  obtain ⟨w', hrun, r1, r2, r3⟩ := h.del K ht hkey hu o.type
  unfold Oper.wp
  simp [execOp, hop, resolve, invoke, builtin, hm, hx, hrun, Result.andThen]
  exact hK' _ _ (hK w' r1 r2 r3)
/-- range m, at the operation. -/
theorem wpList_mp_range (hg : o.guard = none) (m : Operand) (hop : o.op = Op.range t m) (h : IsMp k w b n f) (ht : Try.prog.underlying t = some (.map k e)) (hm : a.eval m = .map (some b))
    (hK : ∀ w', Rng k w' b w.heap.size n f (fun key => f key ≠ none) n → Frm (fun _ => False) w w' → w'.heap.size = w.heap.size + 1 → wpList Try.prog ops Q rest (a.put o.dst (.pointer (some ⟨w.heap.size, 0, none⟩))) w') :
    wpList Try.prog ops Q (o :: rest) a w := by
  refine wpList_plain hg fun K' hK' => ?_
  obtain ⟨w', hrun, r1, r2, r3⟩ := h.range ht
  unfold Oper.wp
  simp [execOp, hop, hm, hrun, Result.andThen]
  exact hK' _ _ (hK w' r1 r2 r3)
/-- The step, at the operation; mkK, mkV: the shapes of keys and elements. -/
theorem wpList_mp_next {α β : Type} (hg : o.guard = none) (it : Operand) (hop : o.op = Op.next it false) (mkK : α → Value) (mkV : β → Value) (h : Rng k w b r n f left cnt) (inv : ∀ key v, f key = some v → (∃ x, key = mkK x) ∧ ∃ y, v = mkV y) (hit : a.eval it = .pointer (some ⟨r, 0, none⟩))
    (hDone : (∀ key, ¬ left key) → cnt = 0 → wpList Try.prog ops Q rest (a.put o.dst (.tuple #[.bool false])) w)
    (hMore : ∀ (x : α) (y : β) (w' : World) (cnt' : Nat), left (mkK x) → f (mkK x) = some (mkV y) → Rng k w' b r n f (strike left (mkK x)) cnt' → cnt' < cnt → Frm (· = r) w w' → w'.heap.size = w.heap.size →
      (Instr.entry (.pointer (some ⟨r, 0, none⟩))).run Try.prog w' = .ok (.tuple #[mkK x, mkV y]) w' → wpList Try.prog ops Q rest (a.put o.dst (.tuple #[.bool true, mkK x, mkV y])) w') :
    wpList Try.prog ops Q (o :: rest) a w := by
  refine wpList_plain hg fun K' hK' => ?_
  unfold Oper.wp
  rcases h.next o.type with ⟨hl, h0, hrun⟩ | ⟨key, v, w', cnt', hlk, hfk, hrun, hrg, hlt, hgr, hsz, hen⟩
  · simp [execOp, hop, hit, hrun, Result.andThen]
    exact hK' _ _ (hDone hl h0)
  · obtain ⟨⟨x, rfl⟩, y, rfl⟩ := inv key v hfk
    simp [execOp, hop, hit, hrun, Result.andThen]
    exact hK' _ _ (hMore x y w' cnt' hlk hfk hrg hlt hgr hsz hen)
/-- delete(m, key) of a key that has come, at the operation. -/
theorem wpList_mp_rdel (hg : o.guard = none) (m x : Operand) (hop : o.op = Op.call { callee := Callee.builtin Builtin.delete, args := #[m, x], argTypes := #[t, k] }) (h : Rng k w b r n f left cnt) (K : Keyed Try.prog k) (ht : Try.prog.underlying t = some (.map k e)) (key : Value) (kl : Lit) (hkey : keyOf Try.prog k key = some kl) (hl : ¬ left key) {f' : Value → Option Value} (hu : IsUpd f f' key none)
    (hm : a.eval m = .map (some b)) (hx : a.eval x = key)
    (hK : ∀ w' cnt' n', Rng k w' b r n' f' left cnt' → cnt' ≤ cnt → n' ≤ n → Frm (· = b) w w' → w'.heap.size = w.heap.size → wpList Try.prog ops Q rest (a.put o.dst (.tuple #[])) w') :
    wpList Try.prog ops Q (o :: rest) a w := by
  refine wpList_plain hg fun K' hK' => ?_
  obtain ⟨w', cnt', n', hrun, r1, r2, r3, r4, r5⟩ := h.del K ht hkey hl hu o.type
  unfold Oper.wp
  simp [execOp, hop, resolve, invoke, builtin, hm, hx, hrun, Result.andThen]
  exact hK' _ _ (hK w' cnt' n' r1 r2 r3 r4 r5)
end
end Go.Proofs.Ytabmbppolmikcaa
