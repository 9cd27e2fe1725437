/- The walks of tympanhelp.Place and of the edges by numbers: Next, Coord, Edge. -/
import Derived.Test.YtnienpalbfgflaaBW9
import Derived.Test.YtnienpalbfgflaaBW10
namespace Go.Proofs.Ytnienpalbfgflaa
set_option linter.unusedVariables false
open Go.RowKit

theorem Pl.emod_of_tmod (v n : Int) (hn : 0 < n) : (if v.tmod n < 0 then v.tmod n + n else v.tmod n) = v % n := by
  have h := Pl.tmod_bd v n hn
  by_cases c : v.tmod n < 0
  · rw [if_pos c]
    have e1 := Int.mul_tdiv_add_tmod v n
    have e2 := Int.emod_add_mul_ediv v n
    have h1 := Int.emod_nonneg v (show n ≠ 0 by omega)
    have h2 := Int.emod_lt_of_pos v hn
    have e3 : n * (v.tdiv n - 1 - v / n) = v % n - (v.tmod n + n) := by grind
    have h3 : v.tdiv n - 1 - v / n = 0 := by
      rcases Int.lt_trichotomy (v.tdiv n - 1 - v / n) 0 with h | h | h
      · have := Int.mul_le_mul_of_nonneg_left (show v.tdiv n - 1 - v / n ≤ -1 by omega) (show 0 ≤ n by omega)
        omega
      · exact h
      · have := Int.mul_le_mul_of_nonneg_left (show 1 ≤ v.tdiv n - 1 - v / n by omega) (show 0 ≤ n by omega)
        omega
    rw [h3] at e3
    omega
  · rw [if_neg c]
    have e1 := Int.mul_tdiv_add_tmod v n
    have e2 := Int.emod_add_mul_ediv v n
    have h1 := Int.emod_nonneg v (show n ≠ 0 by omega)
    have h2 := Int.emod_lt_of_pos v hn
    have e3 : n * (v.tdiv n - v / n) = v % n - v.tmod n := by grind
    have h3 : v.tdiv n - v / n = 0 := by
      rcases Int.lt_trichotomy (v.tdiv n - v / n) 0 with h | h | h
      · have := Int.mul_le_mul_of_nonneg_left (show v.tdiv n - v / n ≤ -1 by omega) (show 0 ≤ n by omega)
        omega
      · exact h
      · have := Int.mul_le_mul_of_nonneg_left (show 1 ≤ v.tdiv n - v / n by omega) (show 0 ≤ n by omega)
        omega
    rw [h3] at e3
    omega
set_option maxRecDepth 100000 in
theorem place_any (v n : Int) (hn : 0 < n) (hn2 : n ≤ 1000000) (W : World) :
    Calls Try.prog 15 #[.int .i64 v, .int .i64 n] W fun e w' => e = .returned (.int .i64 (v % n)) ∧ W = w' := by
  have hE := Pl.emod_of_tmod v n hn
  have hb := Pl.tmod_bd v n hn
  obtain ⟨k, hk⟩ : ∃ k, k = v.tmod n := ⟨_, rfl⟩
  obtain ⟨r, hr⟩ : ∃ r, r = v % n := ⟨_, rfl⟩
  rw [← hk] at hE hb
  rw [← hr] at hE ⊢
  have HK : v.tmod n = k := hk.symm
  have hnb : (n == 0) = false := beq_eq_false_iff_ne.2 (by omega)
  have HR := Lib.hid hE
  clear hE hr hk
  obtain ⟨b1, b2⟩ := hb
  have w1 : IntKind.i64.wrap k = k := by unfold IntKind.wrap IntKind.bits IntKind.signed; simp; omega
  by_cases c : k < 0
  · go_enter Try.func15, Try.ntmps15
    go_wp2_with fail
    go_ret
    exact ⟨ret_int (by rw [← HR.out, if_pos c]), rfl⟩
  · go_enter Try.func15, Try.ntmps15
    go_wp2_with fail
    go_ret
    exact ⟨ret_int (by rw [← HR.out, if_neg (by omega)]), rfl⟩
theorem RdI.fr0 {W W' : World} {v : Value} {L : List Int} (h : RdI v L W) (k : Fr (fun _ => False) W W') : RdI v L W' := by
  obtain ⟨ao, cap, rfl, hc, h⟩ := h
  refine ⟨ao, cap, rfl, hc, ?_⟩
  rcases h with h | ⟨g, o, rfl, hg, h⟩
  · exact .inl h
  · exact .inr ⟨g, o, rfl, Nat.lt_of_lt_of_le hg k.2.2.1, fun j x hx => (k.cell (a := ⟨g, o + j, none⟩) hg (fun f => f)).trans (h j x hx)⟩
/-- the next number, as one from 0 to n - 1 -/
def Pl.nxt (L : List Int) (n : Int) : Int := match L with
  | [] => 0
  | x :: _ => x % n
theorem Pl.nxt_bd (L : List Int) (n : Int) (hn : 0 < n) : 0 ≤ Pl.nxt L n ∧ Pl.nxt L n < n := by
  cases L with
  | nil => exact ⟨Int.le_refl _, hn⟩
  | cons x L => exact ⟨Int.emod_nonneg x (by omega), Int.emod_lt_of_pos x hn⟩
/-- numbers that are taken one by one lie in block p -/
def LN (W : World) (p : Nat) (L : List Int) (Z : World) : Prop := ∃ v, Blk W p [v] Z ∧ RdI v L W ∧ Fr (fun _ => False) W Z
theorem LN.new {W Z : World} {v : Value} {L : List Int} (hv : RdI v L W) (f : Fr (fun _ => False) W Z) (t : TypeId) : LN W Z.heap.size L (Z.alloc (.cells #[v] t)) :=
  ⟨v, Blk.new #[v] t f.2.2.1, hv, f.trans (Fr.alloc _ _ _)⟩
theorem LN.grow {W Z Z' : World} {p : Nat} {L : List Int} (h : LN W p L Z) (g : Grown Z Z') : LN W p L Z' := by
  obtain ⟨v, hb, hr, hf⟩ := h
  exact ⟨v, hb.grow g, hr, hf.trans (Fr.of_grown _ g)⟩
theorem LN.fr {W Z : World} {p : Nat} {L : List Int} (h : LN W p L Z) : Fr (fun _ => False) W Z := by
  obtain ⟨v, hb, hr, hf⟩ := h
  exact hf
theorem fr_born {W Z Z' : World} {p : Nat} (h : Fr (fun _ => False) W Z) (k : Fr (fun q => q = p) Z Z') (hp : W.heap.size ≤ p) : Fr (fun _ => False) W Z' := h.trans' k (fun i q => .inr (by omega))
theorem Try.intInfo : (Try.prog.info? 3).map (fun i => (i.zero, i.size, i.bytes)) = some (some (.int .i64 0), 1, 8) := by kernel_rfl
theorem Try.elem22 : Try.prog.elem 22 = 3 := by kernel_rfl
/-- what is left when the first is taken -/
theorem RdI.tl {W : World} {ao : Option Addr} {m cap : Nat} {x : Int} {L : List Int} (h : RdI (.slice ao m cap) (x :: L) W) : ∃ v, RdI v L W ∧ ∀ Z, (Instr.slice 22 (.slice ao m cap) (some (.int .i64 1)) none none).run Try.prog Z = .ok v Z := by
  obtain ⟨ao2, cap2, hv, hc, h⟩ := h
  injection hv with q1 q2 q3
  subst q1 q2 q3
  obtain ⟨g, o, rfl, hg, hcell⟩ := h.resolve_left (by simp)
  obtain ⟨i, hi0, hz0, hz1, hz2⟩ := info_parts Try.intInfo
  refine ⟨sliced (some ⟨g, o, none⟩) 1 (x :: L).length cap 1, ?_, fun Z => ?_⟩
  · unfold sliced
    refine ⟨_, cap - 1, by rw [show (x :: L).length - 1 = L.length by simp], by simp at hc; omega, ?_⟩
    by_cases hz : L.length = 0
    · exact .inl (List.eq_nil_of_length_eq_zero hz)
    · refine .inr ⟨g, o + 1, ?_, hg, fun j y hy => ?_⟩
      · rw [if_neg (by simp at hc; omega)]
        simp [Addr.add_lit]
      · have := hcell (j + 1) y (by simpa using hy)
        rw [show o + 1 + j = o + (j + 1) by omega]
        exact this
  · rw [run_slice_l (P := Try.prog) Z 22 (some ⟨g, o, none⟩) (x :: L).length cap (by rw [Try.elem22]; exact Try.underlying22) .i64 1 (by omega) (by simp; omega), Try.elem22]
    simp [sizeOf, typeInfo, hi0, hz1, Result.andThen]
set_option maxRecDepth 100000 in
theorem next_any (W Z : World) (p : Nat) (L : List Int) (n : Int) (hn : 0 < n) (hn2 : n ≤ 1000000) (h : LN W p L Z) :
    Calls Try.prog 21 #[.pointer (some ⟨p, 0, none⟩), .int .i64 n] Z fun e Z' => e = .returned (.int .i64 (Pl.nxt L n)) ∧ LN W p L.tail Z' ∧ Fr (fun q => q = p) Z Z' := by
  have CP := Lib.hid (fun x Z => place_any x n hn hn2 Z)
  have HL := Lib.hid h
  obtain ⟨v, hb, hr, hf⟩ := h
  have c0 := hb.at 0 _ rfl
  have fz := hb.2.2.2 0
  obtain ⟨ao, cap, rfl, hcap, hrd⟩ := id hr
  cases L with
  | nil =>
    clear hb hr hf hrd CP
    have hl : ((([] : List Int).length : Nat) : Int) = 0 := rfl
    go_enter Try.func21, Try.ntmps21
    go_wp2_with fail
    go_ret
    exact ⟨rfl, HL.out, Fr.refl _ _⟩
  | cons x L =>
    obtain ⟨v2, hv2, hsl⟩ := hr.tl
    obtain ⟨g, o, rfl, hg, hcell⟩ := hrd.resolve_left (by simp)
    have hx := (hf.cell (a := ⟨g, o + 0, none⟩) hg (fun f => f)).trans (hcell 0 x rfl)
    rw [Nat.add_zero] at hx
    have HB := Lib.hid hb
    have HF := Lib.hid hf
    have HV := Lib.hid hv2
    obtain ⟨ao2, cap2, rfl, _⟩ := id hv2
    obtain ⟨N2, hN2⟩ : ∃ N2, N2 = L.length := ⟨_, rfl⟩
    rw [← hN2] at hsl HV
    clear hN2
    obtain ⟨M, hM⟩ : ∃ M, M = (x :: L).length := ⟨_, rfl⟩
    rw [← hM] at hcap c0 hsl HB
    have hM1 : 0 < M := by rw [hM]; simp
    have hMb : ((M : Int) == 0) = false := beq_eq_false_iff_ne.2 (by omega)
    clear hb hr hf hrd hcell hv2 hM
    go_enter Try.func21, Try.ntmps21
    go_wp2_with fail
    refine (CP.out _ _).mono ?_
    rintro e w1 ⟨rfl, rfl⟩
    go_wp2_with fail
    go_ret
    refine ⟨rfl, ⟨_, ?_, HV.out, ?_⟩, Fr.setCell _ _ _ _ rfl⟩
    · exact HB.out.set 0 (by simp) _
    · exact fr_born HF.out (Fr.setCell (fun q => q = p) _ _ _ rfl) HB.out.1
set_option maxRecDepth 100000 in
theorem coord_any (W Z : World) (p : Nat) (L : List Int) (h : LN W p L Z) :
    Calls Try.prog 20 #[.pointer (some ⟨p, 0, none⟩)] Z fun e Z' => e = .returned (.int .i64 (Pl.nxt L 320 - 32)) ∧ LN W p L.tail Z' ∧ Fr (fun q => q = p) Z Z' := by
  have CN := Lib.hid (next_any W Z p L 320 (by omega) (by omega) h)
  have hb := Pl.nxt_bd L 320 (by omega)
  obtain ⟨r, hr⟩ : ∃ r, r = Pl.nxt L 320 := ⟨_, rfl⟩
  rw [← hr] at CN hb ⊢
  clear h hr
  go_enter Try.func20, Try.ntmps20
  go_wp2_with fail
  refine CN.out.mono ?_
  rintro e w1 ⟨rfl, h1, f1⟩
  have H1 := Lib.hid (And.intro h1 f1)
  clear h1 f1
  go_wp2_with fail
  go_ret
  exact ⟨rfl, H1.out⟩
def Pl.co (L : List Int) (i : Nat) : Int := Pl.nxt (L.drop i) 320 - 32
def Pl.bends (L : List Int) : Bool := decide (0 < Pl.nxt (L.drop 4) 4)
/-- an edge by numbers, and what is left of them -/
def Pl.edge (L : List Int) : Pl.Ed := ⟨Pl.co L 0, Pl.co L 1, Pl.bends L, if Pl.bends L = true then Pl.co L 5 else 0, if Pl.bends L = true then Pl.co L 6 else 0, Pl.co L 2, Pl.co L 3⟩
def Pl.rest (L : List Int) : List Int := if Pl.bends L = true then L.drop 7 else L.drop 5
theorem Pl.co_bd (L : List Int) (i : Nat) : -32 ≤ Pl.co L i ∧ Pl.co L i ≤ 287 := by
  have := Pl.nxt_bd (L.drop i) 320 (by omega)
  unfold Pl.co
  omega
theorem LN.other {W Z : World} {p q : Nat} {N : List Int} (h : LN W p N Z) (v : Value) (k : Nat) (hq : W.heap.size ≤ q) (hp : p ≠ q) : LN W p N (Z.setCell ⟨q, k, none⟩ v) := by
  obtain ⟨u, hb, hr, hf⟩ := h
  exact ⟨u, hb.other hp v, hr, fr_born hf (Fr.setCell (fun c => c = q) _ _ _ rfl) hq⟩
theorem LN.alloc {W Z : World} {p : Nat} {N : List Int} (h : LN W p N Z) (A : Array Value) (t : TypeId) : LN W p N (Z.alloc (.cells A t)) := by
  obtain ⟨u, hb, hr, hf⟩ := h
  exact ⟨u, hb.alloc A t, hr, hf.trans (Fr.alloc _ _ _)⟩
theorem Blk.fr {W Z Z' : World} {p : Nat} {L : List Value} {P : Nat → Prop} (h : Blk W p L Z) (f : Fr P Z Z') (hp : ¬ P p) : Blk W p L Z' := by
  obtain ⟨h1, h2, h3, h4⟩ := h
  exact ⟨h1, Nat.lt_of_lt_of_le h2 f.2.2.1, fun j u hu => (f.cell (a := ⟨p, j, none⟩) h2 hp).trans (h3 j u hu), fun j => (f.frozen (a := ⟨p, j, none⟩) h2 hp).trans (h4 j)⟩
end Go.Proofs.Ytnienpalbfgflaa
