/- DiskPlays: what stands at a round of its loop. -/
import Derived.Test.YtlcdldddghhdjaaDiskCuts
import Derived.Test.YtlcdldddghhdjaaAppend
import Derived.Test.YtlcdldddghhdjaaTypes
namespace Go.Proofs.Ytlcdldddghhdjaa
open Go.RowKit Go.ChangeShapes
theorem SlK.ints {w : World} {a : Option Addr} {n : Nat} {x : List Int} (h : SlK c5 w a n x) : IsInts .u8 w a n x := by
  refine ⟨h.le, h.small, fun hn => ?_, fun y hy => ?_⟩
  · obtain ⟨b, off, rfl, hb, hc⟩ := h.at_ hn
    refine ⟨b, off, rfl, hb, fun i hi => ?_⟩
    obtain ⟨cs, ⟨rfl, _⟩, hcell⟩ := hc i x[i] (List.getElem?_eq_getElem hi)
    have := hcell 0 _ rfl
    rw [cells5, Nat.mul_one, Nat.add_zero] at this
    rw [this, List.getD_eq_getElem?_getD, List.getElem?_eq_getElem hi]
    rfl
  · obtain ⟨i, hi, rfl⟩ := List.mem_iff_getElem.1 hy
    obtain ⟨b, off, rfl, hb, hc⟩ := h.at_ (by omega)
    obtain ⟨cs, ⟨_, hw⟩, _⟩ := hc i x[i] (List.getElem?_eq_getElem hi)
    exact hw
theorem IsInts.frmg {w w' : World} {A : Option Addr} {c : Nat} {x : List Int} {g T : Nat} {s0 s1 : ByteArray} (h : IsInts .u8 w A c x) (hg : Blk w g [.string s0, .string s1] T) (f : Frm (· = g) w w') : IsInts .u8 w' A c x := by
  refine ⟨h.le, h.small, fun hn => ?_, h.wf⟩
  obtain ⟨b, off, rfl, hb, hc⟩ := h.at_ hn
  have hne : b ≠ g := by
    rintro rfl
    have h0 := hc 0 (by omega)
    rw [hg.cell, Nat.add_zero] at h0
    rcases Nat.lt_or_ge off 2 with h2 | h2
    · have : off = 0 ∨ off = 1 := by omega
      rcases this with rfl | rfl <;> simp at h0
    · rw [List.getElem?_eq_none (by simpa using h2)] at h0; cases h0
  exact ⟨b, off, rfl, Nat.lt_of_lt_of_le hb f.size, fun i hi => (f.cell (p := ⟨b, off + i, none⟩) hb hne).trans (hc i hi)⟩
theorem IsDk.frmg {w w' : World} {b : Nat} {x0 x1 : List Int} {ar : Bool} {n : Int} {g T : Nat} {s0 s1 : ByteArray} (h : IsDk w b x0 x1 ar n) (hg : Blk w g [.string s0, .string s1] T) (hne : b ≠ g) (f : Frm (· = g) w w') : IsDk w' b x0 x1 ar n := by
  obtain ⟨A0, c0, A1, c1, hb, h0, h1⟩ := h.blk
  exact ⟨⟨A0, c0, A1, c1, hb.frm f hne, ⟨h0.ints.frmg hg f, h0.off⟩, ⟨h1.ints.frmg hg f, h1.off⟩⟩, h.n0, h.l0, h.l1⟩
theorem Read_two {w : World} {b : Nat} {x0 x1 : List Int} {ar : Bool} {n : Int} (h : IsDk w b x0 x1 ar n) : Calls Try.prog 10 #[.pointer (some ⟨b, 0, none⟩), .int .i64 2] w fun e w' =>
    ∃ A c, e = .returned (.slice A 0 c) ∧ Frm (fun _ => False) w w' := by
  refine (Read_calls h 2).mono ?_
  rintro e w' ⟨A, c, rfl, _, f⟩
  exact ⟨A, c, rfl, Frm.of_below f fun k hk hk' => absurd (Nat.lt_of_lt_of_le hk hk') (Nat.lt_irrefl _)⟩
abbrev TS : Nat := 26
abbrev TP : Nat := 29
/-- At the loop's head: the disk at b, the law's own two strings at g. -/
structure St (w0 w : World) (b g : Nat) (x0 x1 : List Int) (ar : Bool) (n : Int) (s0 s1 : List Int) : Prop where
  dk : IsDk w b x0 x1 ar n
  row : Blk w g [.string (strOfNums s0), .string (strOfNums s1)] TS
  bel : Below w0.heap.size w0 w
  hbg : b ≠ g
  hb : w0.heap.size ≤ b
  hg : w0.heap.size ≤ g
/-- In a round: the step at sb besides. -/
structure Stp (w0 w : World) (b g sb : Nat) (cs : List Value) (x0 x1 : List Int) (ar : Bool) (n : Int) (s0 s1 : List Int) : Prop where
  back : St w0 w b g x0 x1 ar n s0 s1
  blk : Blk w sb cs TP
  nb : sb ≠ b
  ng : sb ≠ g
theorem St.begin {w w1 w2 : World} (f1 : Below w.heap.size w w1) (h2 : IsDk w2 w1.heap.size [] [] false 0) (f2 : Below w1.heap.size w1 w2) :
    St w (w2.alloc (.cells #[.string ByteArray.empty, .string ByteArray.empty] TS)) w1.heap.size w2.heap.size [] [] false 0 [] [] := by
  have hlt : w1.heap.size < w2.heap.size := by obtain ⟨_, _, _, _, hb, _⟩ := h2.blk; exact hb.lt
  exact ⟨h2.frm ((Frm.refl _ _).alloc _), Blk.new w2 [.string (strOfNums []), .string (strOfNums [])] TS, (below_next f1 f2).alloc (Nat.le_trans f1.size f2.size) _, by omega, f1.size, Nat.le_trans f1.size f2.size⟩
section
variable {w0 w w' : World} {b g sb : Nat} {cs : List Value} {x0 x1 : List Int} {ar : Bool} {n : Int} {s0 s1 : List Int}
theorem St.round (h : St w0 w b g x0 x1 ar n s0 s1) (cs : List Value) : Stp w0 (w.alloc (.cells cs.toArray TP)) b g w.heap.size cs x0 x1 ar n s0 s1 := by
  have hlt : b < w.heap.size := by obtain ⟨_, _, _, _, hb, _⟩ := h.dk.blk; exact hb.lt
  have hlg := h.row.lt
  exact ⟨⟨h.dk.frm ((Frm.refl _ _).alloc _), h.row.alloc _, h.bel.alloc h.bel.size _, h.hbg, h.hb, h.hg⟩, Blk.new _ _ _, by omega, by omega⟩
theorem Stp.dk (h : Stp w0 w b g sb cs x0 x1 ar n s0 s1) : IsDk w b x0 x1 ar n := h.back.dk
theorem Stp.bel (h : Stp w0 w b g sb cs x0 x1 ar n s0 s1) : Below w0.heap.size w0 w := h.back.bel
theorem Stp.quiet (h : Stp w0 w b g sb cs x0 x1 ar n s0 s1) (f : Frm (fun _ => False) w w') : Stp w0 w' b g sb cs x0 x1 ar n s0 s1 :=
  ⟨⟨h.dk.frm f, h.back.row.frm f (fun h => h), below_frm0 h.bel f, h.back.hbg, h.back.hb, h.back.hg⟩, h.blk.frm f (fun h => h), h.nb, h.ng⟩
theorem Stp.drew (h : Stp w0 w b g sb cs x0 x1 ar n s0 s1) : Stp w0 w.drew b g sb cs x0 x1 ar n s0 s1 := h.quiet (Frm.refl _ _).drew
theorem Stp.disk (h : Stp w0 w b g sb cs x0 x1 ar n s0 s1) {y0 y1 : List Int} {br : Bool} {m : Int} (hd : IsDk w' b y0 y1 br m) (f : Frm (· = b) w w') : Stp w0 w' b g sb cs y0 y1 br m s0 s1 :=
  ⟨⟨hd, h.back.row.frm f (Ne.symm h.back.hbg), below_frm1 h.bel f h.back.hb, h.back.hbg, h.back.hb, h.back.hg⟩, h.blk.frm f h.nb, h.nb, h.ng⟩
theorem Stp.setg0 (h : Stp w0 w b g sb cs x0 x1 ar n s0 s1) (s : List Int) : Stp w0 (w.setCell ⟨g, 0, none⟩ (.string (strOfNums s))) b g sb cs x0 x1 ar n s s1 := by
  have f : Frm (· = g) w (w.setCell ⟨g, 0, none⟩ (.string (strOfNums s))) := (Frm.refl _ _).setCell _ _ (.inr rfl)
  exact ⟨⟨h.dk.frmg h.back.row h.back.hbg f, h.back.row.setCell 0 _, below_frm1 h.bel f h.back.hg, h.back.hbg, h.back.hb, h.back.hg⟩, h.blk.frm f h.ng, h.nb, h.ng⟩
theorem Stp.setg1 (h : Stp w0 w b g sb cs x0 x1 ar n s0 s1) (s : List Int) : Stp w0 (w.setCell ⟨g, 1, none⟩ (.string (strOfNums s))) b g sb cs x0 x1 ar n s0 s := by
  have f : Frm (· = g) w (w.setCell ⟨g, 1, none⟩ (.string (strOfNums s))) := (Frm.refl _ _).setCell _ _ (.inr rfl)
  exact ⟨⟨h.dk.frmg h.back.row h.back.hbg f, h.back.row.setCell 1 _, below_frm1 h.bel f h.back.hg, h.back.hbg, h.back.hb, h.back.hg⟩, h.blk.frm f h.ng, h.nb, h.ng⟩
theorem Stp.cells (h : Stp w0 w b g sb cs x0 x1 ar n s0 s1) (i : Nat) : w.cell? ⟨sb, i, none⟩ = cs[i]? := h.blk.cell i
theorem Stp.cellg (h : Stp w0 w b g sb cs x0 x1 ar n s0 s1) (i : Nat) : w.cell? ⟨g, i, none⟩ = [Value.string (strOfNums s0), Value.string (strOfNums s1)][i]? := h.back.row.cell i
theorem Stp.freeg (h : Stp w0 w b g sb cs x0 x1 ar n s0 s1) (i : Nat) : w.frozen? ⟨g, i, none⟩ = false := h.back.row.free i
theorem Stp.keepg (h : Stp w0 w b g sb cs x0 x1 ar n s0 s1) : w.cell? ⟨g, 0, none⟩ = some (.string (strOfNums s0)) ∧ w.cell? ⟨g, 1, none⟩ = some (.string (strOfNums s1)) := ⟨h.cellg 0, h.cellg 1⟩
variable {wh ae nn : Int} {sa : Option Addr} {sn : Nat} {bs : List Int}
theorem Stp.keeps (h : Stp w0 w b g sb [.int .i64 wh, .int .i64 ae, .int .i64 nn, .slice sa bs.length sn] x0 x1 ar n s0 s1) : w.cell? ⟨sb, 1, none⟩ = some (.int .i64 ae) ∧ w.cell? ⟨sb, 3, none⟩ = some (.slice sa bs.length sn) := ⟨h.cells 1, h.cells 3⟩
theorem Stp.bytes (h : Stp w0 w b g sb cs x0 x1 ar n s0 s1) {a : Option Addr} {c : Nat} {x : List Int} (hx : IsInts .u8 w0 a c x) : IsInts .u8 w a c x := hx.below h.bel (Nat.le_refl _)
theorem Stp.conv (h : Stp w0 w b g sb cs x0 x1 ar n s0 s1) {a : Option Addr} {c : Nat} {x : List Int} (hx : IsInts .u8 w0 a c x) : (convert 27 9 (.slice a x.length c)).run Try.prog w = .ok (.string (strOfNums x)) w := (h.bytes hx).conv
theorem Stp.keepc (h : Stp w0 w b g sb [.int .i64 wh, .int .i64 ae, .int .i64 nn, .slice sa bs.length sn] x0 x1 ar n s0 s1) (hx : IsInts .u8 w0 sa sn bs) {m : Nat} (hm : (bs.take m).length = m) :
    w.cell? ⟨sb, 1, none⟩ = some (.int .i64 ae) ∧ w.cell? ⟨sb, 3, none⟩ = some (.slice sa bs.length sn) ∧ (convert 27 9 (.slice sa m sn)).run Try.prog w = .ok (.string (strOfNums (bs.take m))) w :=
  ⟨h.cells 1, h.cells 3, conv_of (h.bytes (hx.take m)) hm⟩
end
end Go.Proofs.Ytlcdldddghhdjaa
