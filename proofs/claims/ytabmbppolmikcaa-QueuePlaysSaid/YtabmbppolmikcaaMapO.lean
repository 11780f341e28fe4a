/- Maps: store and delete at the operation itself. -/
import Derived.Test.YtabmbppolmikcaaMapF
namespace Go.Proofs.Ytabmbppolmikcaa
open Go.RowKit Go.ChangeShapes
set_option linter.unusedVariables false
set_option linter.unusedSimpArgs false
section
variable {w : World} {o : Oper} {a : Act} {K : Act → World → Prop} {Q : Exit → Act → World → Prop} {k e t : TypeId} {b n : Nat} {f : Value → Option Value}
/-- m[key] = val, at the operation itself. -/
theorem wp_mp_upd (m x v : Operand) (hop : o.op = Op.mapUpdate t m x v) (h : IsMp k w b n f) (K0 : Go.Maps.Keyed Try.prog k) (ht : Try.prog.underlying t = some (.map k e)) (hn : n < 9223372036854775807) (key val : Value) (kl : Lit) (hkey : keyOf Try.prog k key = some kl) {f' : Value → Option Value} (hu : IsUpd f f' key (some val))
    (hm : a.eval m = .map (some b)) (hx : a.eval x = key) (hv : a.eval v = val)
    (hK : ∀ w', IsMp k w' b (if f key = none then n + 1 else n) f' → Frm (· = b) w w' → w'.heap.size = w.heap.size → K (a.put o.dst undef) w') :
    o.wp Try.prog a w K Q := by
  obtain ⟨w', hrun, r1, r2, r3⟩ := h.upd K0 ht hn hkey hu
  unfold Oper.wp
  simp [execOp, hop, hm, hx, hv, hrun, Result.andThen]
  exact hK w' r1 r2 r3
/-- delete(m, key), at the operation itself. -/
theorem wp_mp_del (m x : Operand) (hop : o.op = Op.call { callee := Callee.builtin Builtin.delete, args := #[m, x], argTypes := #[t, k] }) (h : IsMp k w b n f) (K0 : Go.Maps.Keyed Try.prog k) (ht : Try.prog.underlying t = some (.map k e)) (key : Value) (kl : Lit) (hkey : keyOf Try.prog k key = some kl) {f' : Value → Option Value} (hu : IsUpd f f' key none)
    (hm : a.eval m = .map (some b)) (hx : a.eval x = key)
    (hK : ∀ w', IsMp k w' b (if f key = none then n else n - 1) f' → Frm (· = b) w w' → w'.heap.size = w.heap.size → K (a.put o.dst (.tuple #[])) w') :
    o.wp Try.prog a w K Q := by
  obtain ⟨w', hrun, r1, r2, r3⟩ := h.del K0 ht hkey hu o.type
  unfold Oper.wp
  simp [execOp, hop, resolve, invoke, builtin, hm, hx, hrun, Result.andThen]
  exact hK w' r1 r2 r3
end
end Go.Proofs.Ytabmbppolmikcaa
