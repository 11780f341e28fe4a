/- A request as an argument. -/
import Derived.Test.YtipalebaaejfjaaDoorTypes
namespace Go.Proofs.YtipalebaaejfjaaDoor
open Go.RowKit Go.ChangeShapes
set_option linter.unusedVariables false
theorem bnd8 {n : Int} (h : (Lit.int .u8 n).wf = true) : 0 ≤ n ∧ n ≤ 255 := by simp [Lit.wf, IntKind.min, IntKind.max, IntKind.bits, IntKind.signed] at h; omega
theorem bnd16 {n : Int} (h : (Lit.int .u16 n).wf = true) : 0 ≤ n ∧ n ≤ 65535 := by simp [Lit.wf, IntKind.min, IntKind.max, IntKind.bits, IntKind.signed] at h; omega
theorem bnd32 {n : Int} (h : (Lit.int .u32 n).wf = true) : 0 ≤ n ∧ n ≤ 4294967295 := by simp [Lit.wf, IntKind.min, IntKind.max, IntKind.bits, IntKind.signed] at h; omega
theorem list5 {cs : List Value} {a b c d e : Value} (hl : cs.length = 5) (h0 : cs[0]? = some a) (h1 : cs[1]? = some b) (h2 : cs[2]? = some c) (h3 : cs[3]? = some d) (h4 : cs[4]? = some e) : cs = [a, b, c, d, e] := by
  match cs, hl with
  | [x0, x1, x2, x3, x4], _ => simp at h0 h1 h2 h3 h4; simp [h0, h1, h2, h3, h4]
theorem rq_of {w : World} {x : Int × Int × (Int × Int × Int × Unit) × Unit} {cs : List Value} (h : c39.K w x cs) : ∃ c t k y v : Int, cs = [.int .u8 c, .int .u32 t, .int .u8 k, .int .u8 y, .int .u16 v] ∧ (0 ≤ c ∧ c ≤ 255) ∧ (0 ≤ t ∧ t ≤ 4294967295) ∧ (0 ≤ k ∧ k ≤ 255) ∧ (0 ≤ y ∧ y ≤ 255) ∧ (0 ≤ v ∧ v ≤ 65535) := by
  obtain ⟨hl, h0, b0, h1, b1, h2⟩ := k39 h
  obtain ⟨_, g0, d0, g1, d1, g2, d2⟩ := k37 h2
  rw [List.getElem?_take, if_pos (by decide), List.getElem?_drop] at g0 g1 g2
  exact ⟨_, _, _, _, _, list5 hl h0 h1 g0 g1 g2, bnd8 b0, bnd32 b1, bnd8 d0, bnd8 d1, bnd16 d2⟩
end Go.Proofs.YtipalebaaejfjaaDoor
