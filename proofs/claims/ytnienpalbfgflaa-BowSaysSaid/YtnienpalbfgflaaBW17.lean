/- bow.Halve where the halves are whole: the walk. -/
import Derived.Test.YtnienpalbfgflaaBW15
import Derived.Deep.RegionHeld3
namespace Go.Proofs.Ytnienpalbfgflaa
set_option linter.unusedVariables false
open Go.RowKit

theorem Pl.and_mask_i64 (k : Nat) (hk : k ≤ 62) (x : Int) : bits .and .i64 x (2 ^ k - 1) = x % 2 ^ k := by
  have h := Pl.and_mask_u64 k (by omega) x
  have hp0 : (0 : Int) < 2 ^ k := Int.pow_pos (by decide)
  have hp : (2 : Int) ^ k ≤ 2 ^ 62 := by
    have := Nat.pow_le_pow_right (n := 2) (by decide) hk
    exact_mod_cast this
  have h1 := Int.emod_nonneg x (show (2 : Int) ^ k ≠ 0 by omega)
  have h2 := Int.emod_lt_of_pos x hp0
  have e : (2 : Int) ^ 62 = 4611686018427387904 := by decide
  change IntKind.u64.wrap ((BitVec.ofInt 64 x &&& BitVec.ofInt 64 ((2 : Int) ^ k - 1)).toNat : Int) = _ at h
  show IntKind.i64.wrap ((BitVec.ofInt 64 x &&& BitVec.ofInt 64 ((2 : Int) ^ k - 1)).toNat : Int) = _
  have hb := (BitVec.ofInt 64 x &&& BitVec.ofInt 64 ((2 : Int) ^ k - 1)).isLt
  rw [IntKind.wrap_u64] at h
  rw [IntKind.wrap_i64]
  omega
theorem Pl.and_1_i64 (x : Int) : bits .and .i64 x 1 = x % 2 := Pl.and_mask_i64 1 (by decide) x
theorem Pl.and_3_i64 (x : Int) : bits .and .i64 x 3 = x % 4 := Pl.and_mask_i64 2 (by decide) x
/-- two blocks of our own -/
def BB (W : World) (p q : Nat) (A C : List Value) (Z : World) : Prop := Blk W p A Z ∧ Blk W q C Z
theorem post_halve {R : Ending → World → Prop} {a : Act} {W Z : World} {p q : Nat} {x0 y0 cx cy x1 y1 u0 v0 ux uy u1 v1 : Int} {b c ok : Bool} (hp : a.tmps.getD 2 undef = .pointer (some ⟨p, 0, none⟩)) (hq : a.tmps.getD 3 undef = .pointer (some ⟨q, 0, none⟩)) (h4 : a.tmps.getD 4 undef = .bool ok)
    (hB : Blk W p [.int .i64 x0, .int .i64 y0, .bool b, .int .i64 cx, .int .i64 cy, .int .i64 x1, .int .i64 y1] Z) (hC : Blk W q [.int .i64 u0, .int .i64 v0, .bool c, .int .i64 ux, .int .i64 uy, .int .i64 u1, .int .i64 v1] Z) (hd : a.defers = [])
    (hR : R (.returned (.tuple #[.agg #[.int .i64 x0, .int .i64 y0, .bool b, .int .i64 cx, .int .i64 cy, .int .i64 x1, .int .i64 y1], .agg #[.int .i64 u0, .int .i64 v0, .bool c, .int .i64 ux, .int .i64 uy, .int .i64 u1, .int .i64 v1], .bool ok])) Z) : bodyPost Try.prog Try.f25 R .ret a Z := by
  obtain ⟨c0, c1, c2, c3, c4, c5, c6⟩ := hB.at0
  obtain ⟨d0, d1, d2, d3, d4, d5, d6⟩ := hC.at0
  have hp2 : a.tmps[2]?.getD undef = .pointer (some ⟨p, 0, none⟩) := by rw [← hp]; simp
  have hq2 : a.tmps[3]?.getD undef = .pointer (some ⟨q, 0, none⟩) := by rw [← hq]; simp
  have h42 : a.tmps[4]?.getD undef = .bool ok := by rw [← h4]; simp
  exact bodyPost_ret (by simp [results, Try.results25, go_sem, hp2, hq2, h42, c0, c1, c2, c3, c4, c5, c6, d0, d1, d2, d3, d4, d5, d6]) hd hR
end Go.Proofs.Ytnienpalbfgflaa
