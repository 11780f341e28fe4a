/- CoproMeets, walked: of whatever epochs that are told the greatest counts. -/
import Derived.Test.YtglpobgjakmndaaCoproKnown
import Derived.Test.YtglpobgjakmndaaArgs
namespace Go.Proofs.Ytglpobgjakmndaa
open Go.RowKit Go.ChangeShapes
theorem getD_mem {zs : List Int} {k : Nat} (h : k < zs.length) : zs.getD k 0 ∈ zs := by
  rw [List.getD_eq_getElem?_getD, List.getElem?_eq_getElem h]; exact List.getElem_mem h
set_option maxHeartbeats 2000000 in
theorem CoproMeets_walk (a0 : Option Addr) (c0 : Nat) (z0 : List Int) (w : World) (h0 : IsInts .u8 w a0 c0 z0) :
    Calls Try.prog 3 #[.slice a0 z0.length c0] w fun e w' => e = .returned (.bool true) ∧ Below w.heap.size w w' := by
  have hle := h0.le
  have hsm := h0.small
  by_cases hlen : z0.length > 60
  · go_enter Try.func3, Try.ntmps3
    go_wp2_with (go_at_call 7; (with_reducible refine (known_calls _).mono ?_); rintro e w1 ⟨rfl, f1⟩)
    go_ret
    exact ⟨rfl, f1⟩
  · go_enter Try.func3, Try.ntmps3
    go_wp2_with (first
      | (go_at_call 7; (with_reducible refine (known_calls _).mono ?_); rintro e w1 ⟨rfl, f1⟩)
      | (go_at_call 8; (with_reducible refine (New_calls 0 _).mono ?_); rintro e w2 ⟨b, hb0, rfl, h1, f2⟩))
    have hb : w.heap.size ≤ b := Nat.le_trans f1.size hb0
    have f3 := below_frm0 f1 f2
    clear f1 f2 hb0
    go_loopw [4, 5] (fun m i wr => ∃ (k : Nat) (mo : Int), k ≤ z0.length ∧ i = .int .i64 k ∧ m = .int .u8 mo ∧ 1 ≤ mo ∧ mo ≤ 200 ∧ IsCp wr b ⟨0, 1, 0, 1, 1, 1, mo, false⟩ ∧ Below w.heap.size w wr) (fun _ i _ => z0.length - (intOf i).toNat)
    case atStart => exact ⟨0, 1, by omega, rfl, rfl, by omega, by omega, h1, f3⟩
    case round =>
      obtain ⟨k, mo, hk, rfl, rfl, hm1, hm2, hs, hf⟩ := hrel
      by_cases hlt : k < z0.length
      · obtain ⟨ba, off, rfl, hba, hc⟩ := h0.at_ (by omega)
        have hck : wr.cell? ⟨ba, off + k, none⟩ = some (.int .u8 (z0.getD k 0)) := by rw [hf.cell (p := ⟨ba, off + k, none⟩) hba]; exact hc k hlt
        have hwf := bounds_u8 (h0.wf _ (getD_mem hlt))
        clear hc h0
        generalize z0.getD k 0 = x at *
        have HS := hid hs; clear hs
        have HF := hid hf; clear hf
        have hne : ba ≠ b := by omega
        have P1 : ∀ q, Cp.peer ⟨0, 1, 0, 1, 1, 1, q, false⟩ 3 = q := fun q => rfl
        have P2 : ∀ q, Cp.peer ⟨0, 1, 0, 1, 1, 1, q, false⟩ 1 = 1 := fun q => rfl
        have P1' := hid P1; clear P1
        have P2' := hid P2; clear P2
        by_cases hx : x > mo ∧ x ≤ 200
        · have M1 : Cp.meets ⟨0, 1, 0, 1, 1, 1, mo, false⟩ 3 x = true := by simp [Cp.meets, Cp.peer]; omega
          have M2 : Cp.met ⟨0, 1, 0, 1, 1, 1, mo, false⟩ 3 x = ⟨0, 1, 0, 1, 1, 1, x, false⟩ := by unfold Cp.met; rw [if_pos M1]; rfl
          have N1 := hid M1; clear M1
          have N2 := hid M2; clear M2
          obtain ⟨hx1, hx2⟩ := hx
          go_wp2_with (first
              | (go_at_call 9; (with_reducible refine (Meet_calls b _ _ HS.out 3 x (by omega)).mono ?_); rintro e w' ⟨rfl, h', f'⟩; rw [N1.out]; rw [N2.out] at h'; have hck' : w'.cell? ⟨ba, off + k, none⟩ = some (.int .u8 x) := ((f'.cell (p := ⟨ba, off + k, none⟩) (World.block_lt_of_cell? _ _ hck) hne).trans hck); have f2 := hid (below_frm1 HF.out f' hb); clear HF f' HS hck; have HF := f2; clear f2; have HS := hid h'; clear h')
              | (go_at_call 10; (with_reducible refine (Peer_calls b _ _ HS.out 3 (by omega)).mono ?_); rintro e w' ⟨rfl, rfl⟩; rw [P1'.out])
              | (go_at_call 10; (with_reducible refine (Peer_calls b _ _ HS.out 1 (by omega)).mono ?_); rintro e w' ⟨rfl, rfl⟩; rw [P2'.out]))
          go_roundw
          case rel => exact ⟨k + 1, x, by omega, by go_num, rfl, by omega, by omega, HS.out, HF.out⟩
          case measure => simp [intOf]; omega
        · have M1 : Cp.meets ⟨0, 1, 0, 1, 1, 1, mo, false⟩ 3 x = false := by simp [Cp.meets, Cp.peer]; omega
          have M2 : Cp.met ⟨0, 1, 0, 1, 1, 1, mo, false⟩ 3 x = ⟨0, 1, 0, 1, 1, 1, mo, false⟩ := by unfold Cp.met; rw [if_neg (by rw [M1]; decide)]
          have N1 := hid M1; clear M1
          have N2 := hid M2; clear M2
          have hx' : x ≤ mo ∨ (mo < x ∧ 200 < x) := by omega
          clear hx
          rcases hx' with hx' | ⟨hx1, hx2⟩
          all_goals
            go_wp2_with (first
              | (go_at_call 9; (with_reducible refine (Meet_calls b _ _ HS.out 3 x (by omega)).mono ?_); rintro e w' ⟨rfl, h', f'⟩; rw [N1.out]; rw [N2.out] at h'; have hck' : w'.cell? ⟨ba, off + k, none⟩ = some (.int .u8 x) := ((f'.cell (p := ⟨ba, off + k, none⟩) (World.block_lt_of_cell? _ _ hck) hne).trans hck); have f2 := hid (below_frm1 HF.out f' hb); clear HF f' HS hck; have HF := f2; clear f2; have HS := hid h'; clear h')
              | (go_at_call 10; (with_reducible refine (Peer_calls b _ _ HS.out 3 (by omega)).mono ?_); rintro e w' ⟨rfl, rfl⟩; rw [P1'.out])
              | (go_at_call 10; (with_reducible refine (Peer_calls b _ _ HS.out 1 (by omega)).mono ?_); rintro e w' ⟨rfl, rfl⟩; rw [P2'.out]))
            go_roundw
            case rel => exact ⟨k + 1, mo, by omega, by go_num, rfl, by omega, by omega, HS.out, HF.out⟩
            case measure => simp [intOf]; omega
      · go_wp2
        go_ret
        exact ⟨rfl, hf⟩
end Go.Proofs.Ytglpobgjakmndaa
