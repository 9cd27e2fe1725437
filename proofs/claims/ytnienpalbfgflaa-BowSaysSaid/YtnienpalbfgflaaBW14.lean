/- Edges that lie in blocks, for regions that draw their order. -/
import Derived.Test.YtnienpalbfgflaaBW13
namespace Go.Proofs.Ytnienpalbfgflaa
set_option linter.unusedVariables false
open Go.RowKit

/-- an edge in block p -/
abbrev One (W : World) (p : Nat) (x00 y00 : Int) (b0 : Bool) (cx0 cy0 x10 y10 : Int) (Z : World) : Prop := Z.cell? ⟨p, 0, none⟩ = some (.int .i64 x00) ∧ Z.cell? ⟨p, 1, none⟩ = some (.int .i64 y00) ∧ Z.cell? ⟨p, 2, none⟩ = some (.bool b0) ∧ Z.cell? ⟨p, 3, none⟩ = some (.int .i64 cx0) ∧ Z.cell? ⟨p, 4, none⟩ = some (.int .i64 cy0) ∧ Z.cell? ⟨p, 5, none⟩ = some (.int .i64 x10) ∧ Z.cell? ⟨p, 6, none⟩ = some (.int .i64 y10) ∧ Fr (fun _ => False) W Z
/-- two, in blocks p and q -/
abbrev Two (W : World) (p q : Nat) (x00 y00 : Int) (b0 : Bool) (cx0 cy0 x10 y10 : Int) (x01 y01 : Int) (b1 : Bool) (cx1 cy1 x11 y11 : Int) (Z : World) : Prop := Z.cell? ⟨p, 0, none⟩ = some (.int .i64 x00) ∧ Z.cell? ⟨p, 1, none⟩ = some (.int .i64 y00) ∧ Z.cell? ⟨p, 2, none⟩ = some (.bool b0) ∧ Z.cell? ⟨p, 3, none⟩ = some (.int .i64 cx0) ∧ Z.cell? ⟨p, 4, none⟩ = some (.int .i64 cy0) ∧ Z.cell? ⟨p, 5, none⟩ = some (.int .i64 x10) ∧ Z.cell? ⟨p, 6, none⟩ = some (.int .i64 y10) ∧ Z.cell? ⟨q, 0, none⟩ = some (.int .i64 x01) ∧ Z.cell? ⟨q, 1, none⟩ = some (.int .i64 y01) ∧ Z.cell? ⟨q, 2, none⟩ = some (.bool b1) ∧ Z.cell? ⟨q, 3, none⟩ = some (.int .i64 cx1) ∧ Z.cell? ⟨q, 4, none⟩ = some (.int .i64 cy1) ∧ Z.cell? ⟨q, 5, none⟩ = some (.int .i64 x11) ∧ Z.cell? ⟨q, 6, none⟩ = some (.int .i64 y11) ∧ Fr (fun _ => False) W Z
theorem One.fr {W Z Z' : World} {p : Nat} {x00 y00 cx0 cy0 x10 y10 : Int} {b0 : Bool} (h : One W p x00 y00 b0 cx0 cy0 x10 y10 Z) (g : Fr (fun _ => False) Z Z') : One W p x00 y00 b0 cx0 cy0 x10 y10 Z' :=
  ⟨(g.cell (a := ⟨p, 0, none⟩) (block_lt_of_cell h.1) (fun f => f)).trans h.1, (g.cell (a := ⟨p, 1, none⟩) (block_lt_of_cell h.2.1) (fun f => f)).trans h.2.1, (g.cell (a := ⟨p, 2, none⟩) (block_lt_of_cell h.2.2.1) (fun f => f)).trans h.2.2.1, (g.cell (a := ⟨p, 3, none⟩) (block_lt_of_cell h.2.2.2.1) (fun f => f)).trans h.2.2.2.1, (g.cell (a := ⟨p, 4, none⟩) (block_lt_of_cell h.2.2.2.2.1) (fun f => f)).trans h.2.2.2.2.1, (g.cell (a := ⟨p, 5, none⟩) (block_lt_of_cell h.2.2.2.2.2.1) (fun f => f)).trans h.2.2.2.2.2.1, (g.cell (a := ⟨p, 6, none⟩) (block_lt_of_cell h.2.2.2.2.2.2.1) (fun f => f)).trans h.2.2.2.2.2.2.1, h.2.2.2.2.2.2.2.trans g⟩
theorem Two.fr {W Z Z' : World} {p q : Nat} {x00 y00 cx0 cy0 x10 y10 x01 y01 cx1 cy1 x11 y11 : Int} {b0 b1 : Bool} (h : Two W p q x00 y00 b0 cx0 cy0 x10 y10 x01 y01 b1 cx1 cy1 x11 y11 Z) (g : Fr (fun _ => False) Z Z') : Two W p q x00 y00 b0 cx0 cy0 x10 y10 x01 y01 b1 cx1 cy1 x11 y11 Z' :=
  ⟨(g.cell (a := ⟨p, 0, none⟩) (block_lt_of_cell h.1) (fun f => f)).trans h.1, (g.cell (a := ⟨p, 1, none⟩) (block_lt_of_cell h.2.1) (fun f => f)).trans h.2.1, (g.cell (a := ⟨p, 2, none⟩) (block_lt_of_cell h.2.2.1) (fun f => f)).trans h.2.2.1, (g.cell (a := ⟨p, 3, none⟩) (block_lt_of_cell h.2.2.2.1) (fun f => f)).trans h.2.2.2.1, (g.cell (a := ⟨p, 4, none⟩) (block_lt_of_cell h.2.2.2.2.1) (fun f => f)).trans h.2.2.2.2.1, (g.cell (a := ⟨p, 5, none⟩) (block_lt_of_cell h.2.2.2.2.2.1) (fun f => f)).trans h.2.2.2.2.2.1, (g.cell (a := ⟨p, 6, none⟩) (block_lt_of_cell h.2.2.2.2.2.2.1) (fun f => f)).trans h.2.2.2.2.2.2.1, (g.cell (a := ⟨q, 0, none⟩) (block_lt_of_cell h.2.2.2.2.2.2.2.1) (fun f => f)).trans h.2.2.2.2.2.2.2.1, (g.cell (a := ⟨q, 1, none⟩) (block_lt_of_cell h.2.2.2.2.2.2.2.2.1) (fun f => f)).trans h.2.2.2.2.2.2.2.2.1, (g.cell (a := ⟨q, 2, none⟩) (block_lt_of_cell h.2.2.2.2.2.2.2.2.2.1) (fun f => f)).trans h.2.2.2.2.2.2.2.2.2.1, (g.cell (a := ⟨q, 3, none⟩) (block_lt_of_cell h.2.2.2.2.2.2.2.2.2.2.1) (fun f => f)).trans h.2.2.2.2.2.2.2.2.2.2.1, (g.cell (a := ⟨q, 4, none⟩) (block_lt_of_cell h.2.2.2.2.2.2.2.2.2.2.2.1) (fun f => f)).trans h.2.2.2.2.2.2.2.2.2.2.2.1, (g.cell (a := ⟨q, 5, none⟩) (block_lt_of_cell h.2.2.2.2.2.2.2.2.2.2.2.2.1) (fun f => f)).trans h.2.2.2.2.2.2.2.2.2.2.2.2.1, (g.cell (a := ⟨q, 6, none⟩) (block_lt_of_cell h.2.2.2.2.2.2.2.2.2.2.2.2.2.1) (fun f => f)).trans h.2.2.2.2.2.2.2.2.2.2.2.2.2.1, h.2.2.2.2.2.2.2.2.2.2.2.2.2.2.trans g⟩
/-- an edge of machine numbers -/
def Ed64 (e : Pl.Ed) : Prop := (-9223372036854775808 ≤ e.x0 ∧ e.x0 ≤ 9223372036854775807) ∧ (-9223372036854775808 ≤ e.y0 ∧ e.y0 ≤ 9223372036854775807) ∧ (-9223372036854775808 ≤ e.cx ∧ e.cx ≤ 9223372036854775807) ∧ (-9223372036854775808 ≤ e.cy ∧ e.cy ≤ 9223372036854775807) ∧ (-9223372036854775808 ≤ e.x1 ∧ e.x1 ≤ 9223372036854775807) ∧ (-9223372036854775808 ≤ e.y1 ∧ e.y1 ≤ 9223372036854775807)
theorem Kept.of_fr {W w' : World} (h : Fr (fun _ => False) W w') : Kept W w' := (Kept.refl W).fr h (fun _ f => f.elim)
theorem Pl.cnt_bd2 (e : Pl.Ed) (x y : Int) : -2 ≤ Pl.turns e x y ∧ Pl.turns e x y ≤ 2 := by
  unfold Pl.turns
  by_cases h : e.may ∧ Pl.crd x ∧ Pl.crd y
  · rw [if_pos h]
    obtain ⟨h1, h2⟩ := Pl.spots_ok e h.1 y h.2.2
    have := Pl.cnt_bd _ h1 x
    have := Pl.cnt_bd _ h2 x
    unfold Pl.tot
    omega
  · rw [if_neg h]; omega
theorem flip_fr (e : Pl.Ed) (W : World) : Calls Try.prog 22 #[edv e] W fun en w' => en = .returned (edv e.flip) ∧ Fr (fun _ => False) W w' :=
  (bflip_any e W).mono fun en w' ⟨h1, h2⟩ => ⟨h1, Fr.of_grown _ h2⟩
theorem may_fr (e : Pl.Ed) (W : World) : Calls Try.prog 23 #[edv e] W fun en w' => en = .returned (.bool (decide e.may)) ∧ Fr (fun _ => False) W w' :=
  (may_any e W).mono fun en w' ⟨h1, h2⟩ => ⟨h1, Fr.of_grown _ h2⟩
end Go.Proofs.Ytnienpalbfgflaa
