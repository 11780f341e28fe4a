/- Drawn regions: what is held may grow on the way. -/
import Derived.Test.YtipalebaaejfjaaDoorLib
import Derived.Deep.RegionHeld3
namespace Go.Proofs.YtipalebaaejfjaaDoor
open Go.RowKit Go.ChangeShapes
/-- From here on more is held. -/
theorem wpAnyH_to {P : Program} {ops : Array Oper} {Q : Exit → Act → World → Prop} {md : Region.Mode} {S S' : World → Prop} (hw : ∀ w, S' w → S w) :
    ∀ (fuel : Nat) (listed : Array Bool) (a : Act) (w : World), wpAnyH P md ops Q S' fuel listed a w → wpAnyH P md ops Q S fuel listed a w
  | 0, _, _, _, h => h
  | fuel + 1, _, _, _, h => ⟨h.1, fun i hi => wpOp_mono (fun a' w' h' => ⟨hw _ h'.1, wpAnyH_to hw fuel _ a' w' h'.2⟩) (h.2 i hi)⟩
theorem wpAnyH_hold {P : Program} {ops : Array Oper} {Q : Exit → Act → World → Prop} {md : Region.Mode} {S S' : World → Prop} {fuel : Nat} {listed : Array Bool} {a : Act} {w : World}
    (h' : S' w) (h : S' w → wpAnyH P md ops Q (fun wx => S wx ∧ S' wx) fuel listed a w) : wpAnyH P md ops Q S fuel listed a w :=
  wpAnyH_to (fun _ h => h.1) _ _ _ _ (h h')
theorem bdrew {B : Nat} {a w : World} (h : Below B a w) : Below B a w.drew := ⟨h.os, h.tape, h.output, h.size, h.block⟩
theorem frm_drew (w : World) : Frm (fun _ => False) w w.drew := (Frm.refl _ _).drew
end Go.Proofs.YtipalebaaejfjaaDoor
