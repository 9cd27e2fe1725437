/- numtext.Read: what it answers, plain; the walk. -/
import Derived.Test.YtpfkijjpophobaaN9
namespace Go.Proofs.Ytpfkijjpophobaa
set_option linter.unusedVariables false
open Go.RowKit

/-- a sign ahead? -/
def Pl.sg (s : ByteArray) : Nat := if Pl.bt s 0 = 43 ∨ Pl.bt s 0 = 45 then 1 else 0
def Pl.blw (s : ByteArray) : Bool := decide (Pl.bt s 0 = 45)
def Pl.sgd (b : Bool) (v : Int) : Int := if b then -v else v
/-- what lies behind the point -/
def Pl.readPart (b : Bool) (n : Nat) (v : Int) (E : List Nat) (whole : Bool) : Int × Int × Int :=
  if whole = false ∨ n + E.length = 0 then (0, 0, 3)
  else if 12 < E.length ∨ 16383 < v then (0, 0, 2)
  else if 1073741823 < v * 65536 + Pl.nst (Pl.dvl 1000000000000 0 E * 65536) ((10 ^ E.length : Nat) : Int) then (0, 0, 2)
  else (2, Pl.sgd b (v * 65536 + Pl.nst (Pl.dvl 1000000000000 0 E * 65536) ((10 ^ E.length : Nat) : Int)), 0)
/-- what lies behind the sign -/
def Pl.readOf (s : ByteArray) (b : Bool) (a1 n : Nat) (v : Int) : Int × Int × Int :=
  if a1 = s.size ∧ 0 < n then (if 2147483647 < v then (0, 0, 2) else (1, Pl.sgd b v, 0))
  else if a1 = s.size ∨ Pl.bt s a1 ≠ 46 then (0, 0, 3)
  else Pl.readPart b n v (Pl.dgs s (a1 + 1)) (decide (a1 + 1 + (Pl.dgs s (a1 + 1)).length = s.size))
def Pl.read (s : ByteArray) : Int × Int × Int :=
  match Pl.basedV s with
  | some v => if 2147483647 < v then (0, 0, 2) else (1, v, 0)
  | none => Pl.readOf s (Pl.blw s) (Pl.sg s + (Pl.dgs s (Pl.sg s)).length) (Pl.dgs s (Pl.sg s)).length (Pl.dvl 2147483648 0 (Pl.dgs s (Pl.sg s)))

theorem Pl.dvl_nonneg (most : Int) (hm : 0 ≤ most) : ∀ (l : List Nat) (v : Int), 0 ≤ v → (∀ b ∈ l, 48 ≤ b) → 0 ≤ Pl.dvl most v l
  | [], v, h, _ => h
  | b :: r, v, h, hl => Pl.dvl_nonneg most hm r _ (by have := hl b (by simp); omega) (fun c hc => hl c (by simp [hc]))
theorem Pl.dvl_most (most : Int) : ∀ (l : List Nat) (v : Int), v ≤ most → Pl.dvl most v l ≤ most
  | [], v, h => h
  | b :: r, v, h => Pl.dvl_most most r _ (by omega)
theorem Pl.dgs_mem (s : ByteArray) (i : Nat) : ∀ b ∈ Pl.dgs s i, 48 ≤ b ∧ b ≤ 57 := by
  intro b hb
  have h1 : (Pl.dgs s i).all (fun b => decide (48 ≤ b ∧ b ≤ 57)) = true := List.all_takeWhile
  have h2 := List.all_eq_true.1 h1 b hb
  simpa using h2
theorem Pl.dgs_val (s : ByteArray) (i : Nat) (most : Int) (hm : 0 ≤ most) : 0 ≤ Pl.dvl most 0 (Pl.dgs s i) ∧ Pl.dvl most 0 (Pl.dgs s i) ≤ most :=
  ⟨Pl.dvl_nonneg most hm _ 0 (by omega) (fun b hb => (Pl.dgs_mem s i b hb).1), Pl.dvl_most most _ 0 hm⟩

theorem read_based (s : ByteArray) (hs : s.size ≤ 9223372036854775807) (v : Int) (h : Pl.basedV s = some v) (W : World) :
    Calls Try.prog 13 #[.string s] W fun e w' => e = .returned (.tuple #[.int .i64 (Pl.read s).1, .int .i64 (Pl.read s).2.1, .int .i64 (Pl.read s).2.2]) ∧ Fr (fun _ => False) W w' := by
  have C := Lib.hid (based_some s hs v h W)
  have HR : Hid (Pl.read s = if 2147483647 < v then (0, 0, 2) else (1, v, 0)) := Lib.hid (by unfold Pl.read; rw [h])
  clear h
  by_cases hv : 2147483647 < v
  all_goals
    go_enter Try.func13, Try.ntmps13
    go_wp2_with fail
    refine C.out.mono ?_
    rintro e w1 ⟨rfl, f1⟩
    go_wp2_with fail
    go_ret3
    rw [HR.out]
    first | rw [if_pos (by omega)] | rw [if_neg (by omega)]
    exact ⟨rfl, f1⟩

theorem Rd.fr {p : Nat} {s : ByteArray} {a : Nat} {P : Nat → Prop} {W W' : World} (h : Rd p s a W) (k : Fr P W W') (hp : ¬ P p) : Rd p s a W' := by
  obtain ⟨h0, h1, h2⟩ := h
  have hb := block_lt_of_cell h0
  exact ⟨(k.cell (a := ⟨p, 0, none⟩) hb hp).trans h0, (k.cell (a := ⟨p, 1, none⟩) hb hp).trans h1, fun o => (k.frozen (a := ⟨p, o, none⟩) hb hp).trans (h2 o)⟩
theorem Rd.put {p : Nat} {s : ByteArray} {a b : Nat} {W : World} (h : Rd p s a W) : Rd p s b (W.setCell ⟨p, 1, none⟩ (.int .i64 (b : Int))) := by
  obtain ⟨h0, h1, h2⟩ := h
  refine ⟨?_, ?_, ?_⟩
  · rw [World.cell?_setCell_other _ _ _ _ (by simp)]
    exact h0
  · exact World.cell?_setCell_same' _ _ _ (by rw [h1]; rfl)
  · intro o
    simpa using h2 o
theorem Fr.inside {p : Nat} {W w1 w2 : World} (h : Fr (fun _ => False) W w1) (k : Fr (fun q => q = p) w1 w2) (hp : W.heap.size ≤ p) : Fr (fun _ => False) W w2 :=
  h.trans' k (fun i q => .inr (by omega))
theorem Pl.nst_le (a b : Int) (ha : 0 ≤ a) (hb : 1 ≤ b) : 0 ≤ Pl.nst a b ∧ Pl.nst a b ≤ a + 1 := by
  have q0 : 0 ≤ a / b := Int.ediv_nonneg ha (by omega)
  have q1 : a / b ≤ a := Int.ediv_le_self b ha
  unfold Pl.nst
  split <;> omega
theorem tens_12 (W : World) : Calls Try.prog 37 #[.int .i64 12] W fun e w' => e = .returned (.int .i64 1000000000000) ∧ W = w' := tens_any 12 (by omega) W
theorem signed_sgd (v : Int) (x : Bool) (hv : -4611686018427387904 ≤ v ∧ v ≤ 4611686018427387904) (W : World) :
    Calls Try.prog 36 #[.int .i64 v, .bool x] W fun e w' => e = .returned (.int .i64 (Pl.sgd x v)) ∧ W = w' := signed_any v x hv W
end Go.Proofs.Ytpfkijjpophobaa
