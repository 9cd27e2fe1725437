/- The walk of tympanref15.all: six lists joined (printed by wip/gen_all15.py). -/
import Derived.Test.YtenmbkngkabonaaP7
import Derived.Laws.OwnMore
import Derived.OwnWalk
namespace Go.Proofs.Ytenmbkngkabonaa
set_option linter.unusedVariables false
open Go.RowKit

/-- of what was there nothing has turned -/
def Kept (W w' : World) : Prop := W.keptBut w' (fun _ => False) ∧ (∀ a : Addr, a.block < W.heap.size → w'.frozen? a = W.frozen? a) ∧ W.heap.size ≤ w'.heap.size
theorem Kept.of_grown {W w' : World} (h : Grown W w') : Kept W w' := ⟨h.1, fun a _ => h.2.1 a, h.2.2⟩
theorem Kept.refl (W : World) : Kept W W := Kept.of_grown (Grown.refl W)
theorem Kept.trans {a b c : World} (h : Kept a b) (k : Kept b c) : Kept a c :=
  ⟨World.keptBut_trans h.1 k.1, fun x hx => (k.2.1 x (Nat.lt_of_lt_of_le hx h.2.2)).trans (h.2.1 x hx), Nat.le_trans h.2.2 k.2.2⟩
theorem Kept.grown {w W W' : World} {row : Option Nat} (h : Kept w W) (hg : W.grownBy W' row) (hr : ∀ k, row = some k → w.heap.size ≤ k) : Kept w W' := by
  obtain ⟨⟨h1, h2, h3⟩, hf, hs⟩ := h
  have hb : ∀ i, i < w.heap.size → W'.heap[i]? = W.heap[i]? := fun i hi => hg.block i (by omega) (fun e => by have := hr i e.symm; omega)
  refine ⟨⟨by rw [hg.os]; exact h1, by rw [hg.output]; exact h2, fun i hi => ?_⟩, fun a ha => ?_, Nat.le_trans hs hg.size⟩
  · rw [hb i hi]; exact h3 i hi
  · rw [← hf a ha]; exact World.frozen?_of_block (hb a.block ha)
theorem own_from {w : World} {base : Nat} {e : TypeId} {size : Nat} {v : Value} {n : Nat} {xs : List Value} (h : w.ownsRow base e size v n xs) : ∀ k, v.ownBlock = some k → base ≤ k := by
  intro k hk
  rcases h.2 with ⟨rfl, _⟩ | ⟨g, cap, cur, rfl, hb, _⟩
  · cases hk
  · simp [Value.ownBlock] at hk; omega
theorem alloc_cell (w : World) (A : Array Value) (t : TypeId) (j : Nat) (u : Value) (h : A.toList[j]? = some u) : (w.alloc (.cells A t)).cell? ((⟨w.heap.size, 0, none⟩ : Addr).add j) = some u := by
  rw [Addr.add_lit, cell_of_row _ _ _ _ _ _ (heap_alloc_new w _), Nat.zero_add]
  simpa using h

/-- the first k lists, one behind the other -/
def Pl.refCat (f : Func) : Nat → List Value
  | 0 => []
  | k + 1 => Pl.refCat f k ++ (Pl.refA f k).toList
theorem refA_one : (Pl.refA Try.f64 0).toList.all (fun u => u.oneCell') = true ∧ (Pl.refA Try.f64 1).toList.all (fun u => u.oneCell') = true ∧ (Pl.refA Try.f64 2).toList.all (fun u => u.oneCell') = true ∧ (Pl.refA Try.f64 3).toList.all (fun u => u.oneCell') = true ∧ (Pl.refA Try.f64 4).toList.all (fun u => u.oneCell') = true ∧ (Pl.refA Try.f64 5).toList.all (fun u => u.oneCell') = true := by
  refine ⟨by kernel_rfl, by kernel_rfl, by kernel_rfl, by kernel_rfl, by kernel_rfl, by kernel_rfl⟩

theorem Try.strInfo : (Try.prog.info? 9).map (fun i => (i.zero, i.size, i.bytes)) = some (some (.string ⟨#[]⟩), 1, 16) := by kernel_rfl

set_option maxHeartbeats 2000000 in
set_option maxRecDepth 100000 in
theorem refall_own (w : World) : Calls Try.prog 60 #[] w fun e w' => ∃ v, e = .returned v ∧ w'.ownsRow w.heap.size 9 1 v 162 (Pl.refCat Try.f64 6) ∧ Kept w w' := by
  obtain ⟨i0, hi, hz0, hz1, hz2⟩ := info_parts Try.strInfo
  obtain ⟨o0, o1, o2, o3, o4, o5⟩ := refA_one
  obtain ⟨s0, s1, s2, s3, s4, s5⟩ := refA_sizes
  have O0 := Lib.hid o0; have O1 := Lib.hid o1; have O2 := Lib.hid o2; have O3 := Lib.hid o3; have O4 := Lib.hid o4; have O5 := Lib.hid o5
  have S0 := Lib.hid s0; have S1 := Lib.hid s1; have S2 := Lib.hid s2; have S3 := Lib.hid s3; have S4 := Lib.hid s4; have S5 := Lib.hid s5
  clear o0 o1 o2 o3 o4 o5 s0 s1 s2 s3 s4 s5
  obtain ⟨f, hf⟩ : ∃ f, Try.f64 = f := ⟨_, rfl⟩
  have C0 := fun w => refnames_1 w
  rw [hf] at C0 O0 S0
  have C0 := Lib.hid C0
  have C1 := fun w => refnames_2 w
  rw [hf] at C1 O1 S1
  have C1 := Lib.hid C1
  have C2 := fun w => refnames_3 w
  rw [hf] at C2 O2 S2
  have C2 := Lib.hid C2
  have C3 := fun w => refnames_4 w
  rw [hf] at C3 O3 S3
  have C3 := Lib.hid C3
  have C4 := fun w => refnames_5 w
  rw [hf] at C4 O4 S4
  have C4 := Lib.hid C4
  have C5 := fun w => refnames_6 w
  rw [hf] at C5 O5 S5
  have C5 := Lib.hid C5
  rw [hf]
  go_enter Try.func60, Try.ntmps60
  go_wp2_with fail
  go_loopw [1, 2] (fun l i wr => ∃ (k n : Nat), k ≤ 6 ∧ i = .int .i64 ((k : Int) + 1) ∧ wr.ownsRow w.heap.size 9 1 l n (Pl.refCat f k) ∧ Hid ((k = 0 ∧ n = 0) ∨ (k = 1 ∧ n = 38) ∨ (k = 2 ∧ n = 58) ∨ (k = 3 ∧ n = 71) ∨ (k = 4 ∧ n = 80) ∨ (k = 5 ∧ n = 101) ∨ (k = 6 ∧ n = 162)) ∧ Kept w wr) (fun _ i _ => (7 - intOf i).toNat)
  case atStart => exact ⟨0, 0, by omega, rfl, World.ownsRow_nil w _ 9 1, .inl ⟨rfl, rfl⟩, Kept.refl w⟩
  case round =>
    obtain ⟨k, n, hk, rfl, hown, hkn, hK⟩ := hrel
    rcases hkn.out with ⟨rfl, rfl⟩ | ⟨rfl, rfl⟩ | ⟨rfl, rfl⟩ | ⟨rfl, rfl⟩ | ⟨rfl, rfl⟩ | ⟨rfl, rfl⟩ | ⟨rfl, rfl⟩
    · clear hkn hk
      rw [show ((0 : Nat) : Int) + 1 = 1 from rfl]
      go_wp2_with fail
      refine (C0.out _).mono ?_
      rintro e w1 ⟨rfl, rfl⟩
      have hown1 := hown.kept (World.grownBy_alloc _ (.cells (Pl.refA f 0) 9) none) (by first | (exact Or.inl rfl) | (rcases Option.eq_none_or_eq_some (Value.ownBlock _) with h | ⟨x, h⟩; exact Or.inl h; exact Or.inr (by rw [h]; simp)))
      have hK1 := hK.grown (World.grownBy_alloc _ (.cells (Pl.refA f 0) 9) none) (fun k h => by cases h)
      go_wp2_with (at_builtin; refine wpList_append_own _ (hgd := rfl) (.tmp 7) (.tmp 9) 77 rfl w.heap.size 9 i0 (.string ⟨#[]⟩) 1 16 Try.underlying77 hi hz0 hz1 hz2 rfl (by decide) _ 0 (Pl.refCat f 0) rfl hown1 ⟨_, 0, none⟩ 38 38 (Pl.refA f 0).toList rfl ?hlen ?hnews ?hone (by unfold maxLen; omega) (by omega) ?hbase ?hnext)
      case hlen => rw [Array.length_toList, S0.out]
      case hnews => intro j u hu; exact alloc_cell _ _ _ j u hu
      case hone => exact fun u hu => List.all_eq_true.1 O0.out u hu
      case hbase => exact hK1.2.2
      case hnext =>
        intro v' w' hown' hgr hnil
        have hK2 := hK1.grown hgr (own_from hown1)
        go_wp2_with fail
        go_roundw
        case rel => exact ⟨1, 38, by omega, rfl, hown', .inr (.inl ⟨rfl, rfl⟩), hK2⟩
        case measure => simp [intOf]
    · clear hkn hk
      rw [show ((1 : Nat) : Int) + 1 = 2 from rfl]
      go_wp2_with fail
      refine (C1.out _).mono ?_
      rintro e w1 ⟨rfl, rfl⟩
      have hown1 := hown.kept (World.grownBy_alloc _ (.cells (Pl.refA f 1) 9) none) (by first | (exact Or.inl rfl) | (rcases Option.eq_none_or_eq_some (Value.ownBlock _) with h | ⟨x, h⟩; exact Or.inl h; exact Or.inr (by rw [h]; simp)))
      have hK1 := hK.grown (World.grownBy_alloc _ (.cells (Pl.refA f 1) 9) none) (fun k h => by cases h)
      go_wp2_with (at_builtin; refine wpList_append_own _ (hgd := rfl) (.tmp 7) (.tmp 9) 77 rfl w.heap.size 9 i0 (.string ⟨#[]⟩) 1 16 Try.underlying77 hi hz0 hz1 hz2 rfl (by decide) _ 38 (Pl.refCat f 1) rfl hown1 ⟨_, 0, none⟩ 20 20 (Pl.refA f 1).toList rfl ?hlen ?hnews ?hone (by unfold maxLen; omega) (by omega) ?hbase ?hnext)
      case hlen => rw [Array.length_toList, S1.out]
      case hnews => intro j u hu; exact alloc_cell _ _ _ j u hu
      case hone => exact fun u hu => List.all_eq_true.1 O1.out u hu
      case hbase => exact hK1.2.2
      case hnext =>
        intro v' w' hown' hgr hnil
        have hK2 := hK1.grown hgr (own_from hown1)
        go_wp2_with fail
        go_roundw
        case rel => exact ⟨2, 58, by omega, rfl, hown', .inr (.inr (.inl ⟨rfl, rfl⟩)), hK2⟩
        case measure => simp [intOf]
    · clear hkn hk
      rw [show ((2 : Nat) : Int) + 1 = 3 from rfl]
      go_wp2_with fail
      refine (C2.out _).mono ?_
      rintro e w1 ⟨rfl, rfl⟩
      have hown1 := hown.kept (World.grownBy_alloc _ (.cells (Pl.refA f 2) 9) none) (by first | (exact Or.inl rfl) | (rcases Option.eq_none_or_eq_some (Value.ownBlock _) with h | ⟨x, h⟩; exact Or.inl h; exact Or.inr (by rw [h]; simp)))
      have hK1 := hK.grown (World.grownBy_alloc _ (.cells (Pl.refA f 2) 9) none) (fun k h => by cases h)
      go_wp2_with (at_builtin; refine wpList_append_own _ (hgd := rfl) (.tmp 7) (.tmp 9) 77 rfl w.heap.size 9 i0 (.string ⟨#[]⟩) 1 16 Try.underlying77 hi hz0 hz1 hz2 rfl (by decide) _ 58 (Pl.refCat f 2) rfl hown1 ⟨_, 0, none⟩ 13 13 (Pl.refA f 2).toList rfl ?hlen ?hnews ?hone (by unfold maxLen; omega) (by omega) ?hbase ?hnext)
      case hlen => rw [Array.length_toList, S2.out]
      case hnews => intro j u hu; exact alloc_cell _ _ _ j u hu
      case hone => exact fun u hu => List.all_eq_true.1 O2.out u hu
      case hbase => exact hK1.2.2
      case hnext =>
        intro v' w' hown' hgr hnil
        have hK2 := hK1.grown hgr (own_from hown1)
        go_wp2_with fail
        go_roundw
        case rel => exact ⟨3, 71, by omega, rfl, hown', .inr (.inr (.inr (.inl ⟨rfl, rfl⟩))), hK2⟩
        case measure => simp [intOf]
    · clear hkn hk
      rw [show ((3 : Nat) : Int) + 1 = 4 from rfl]
      go_wp2_with fail
      refine (C3.out _).mono ?_
      rintro e w1 ⟨rfl, rfl⟩
      have hown1 := hown.kept (World.grownBy_alloc _ (.cells (Pl.refA f 3) 9) none) (by first | (exact Or.inl rfl) | (rcases Option.eq_none_or_eq_some (Value.ownBlock _) with h | ⟨x, h⟩; exact Or.inl h; exact Or.inr (by rw [h]; simp)))
      have hK1 := hK.grown (World.grownBy_alloc _ (.cells (Pl.refA f 3) 9) none) (fun k h => by cases h)
      go_wp2_with (at_builtin; refine wpList_append_own _ (hgd := rfl) (.tmp 7) (.tmp 9) 77 rfl w.heap.size 9 i0 (.string ⟨#[]⟩) 1 16 Try.underlying77 hi hz0 hz1 hz2 rfl (by decide) _ 71 (Pl.refCat f 3) rfl hown1 ⟨_, 0, none⟩ 9 9 (Pl.refA f 3).toList rfl ?hlen ?hnews ?hone (by unfold maxLen; omega) (by omega) ?hbase ?hnext)
      case hlen => rw [Array.length_toList, S3.out]
      case hnews => intro j u hu; exact alloc_cell _ _ _ j u hu
      case hone => exact fun u hu => List.all_eq_true.1 O3.out u hu
      case hbase => exact hK1.2.2
      case hnext =>
        intro v' w' hown' hgr hnil
        have hK2 := hK1.grown hgr (own_from hown1)
        go_wp2_with fail
        go_roundw
        case rel => exact ⟨4, 80, by omega, rfl, hown', .inr (.inr (.inr (.inr (.inl ⟨rfl, rfl⟩)))), hK2⟩
        case measure => simp [intOf]
    · clear hkn hk
      rw [show ((4 : Nat) : Int) + 1 = 5 from rfl]
      go_wp2_with fail
      refine (C4.out _).mono ?_
      rintro e w1 ⟨rfl, rfl⟩
      have hown1 := hown.kept (World.grownBy_alloc _ (.cells (Pl.refA f 4) 9) none) (by first | (exact Or.inl rfl) | (rcases Option.eq_none_or_eq_some (Value.ownBlock _) with h | ⟨x, h⟩; exact Or.inl h; exact Or.inr (by rw [h]; simp)))
      have hK1 := hK.grown (World.grownBy_alloc _ (.cells (Pl.refA f 4) 9) none) (fun k h => by cases h)
      go_wp2_with (at_builtin; refine wpList_append_own _ (hgd := rfl) (.tmp 7) (.tmp 9) 77 rfl w.heap.size 9 i0 (.string ⟨#[]⟩) 1 16 Try.underlying77 hi hz0 hz1 hz2 rfl (by decide) _ 80 (Pl.refCat f 4) rfl hown1 ⟨_, 0, none⟩ 21 21 (Pl.refA f 4).toList rfl ?hlen ?hnews ?hone (by unfold maxLen; omega) (by omega) ?hbase ?hnext)
      case hlen => rw [Array.length_toList, S4.out]
      case hnews => intro j u hu; exact alloc_cell _ _ _ j u hu
      case hone => exact fun u hu => List.all_eq_true.1 O4.out u hu
      case hbase => exact hK1.2.2
      case hnext =>
        intro v' w' hown' hgr hnil
        have hK2 := hK1.grown hgr (own_from hown1)
        go_wp2_with fail
        go_roundw
        case rel => exact ⟨5, 101, by omega, rfl, hown', .inr (.inr (.inr (.inr (.inr (.inl ⟨rfl, rfl⟩))))), hK2⟩
        case measure => simp [intOf]
    · clear hkn hk
      rw [show ((5 : Nat) : Int) + 1 = 6 from rfl]
      go_wp2_with fail
      refine (C5.out _).mono ?_
      rintro e w1 ⟨rfl, rfl⟩
      have hown1 := hown.kept (World.grownBy_alloc _ (.cells (Pl.refA f 5) 9) none) (by first | (exact Or.inl rfl) | (rcases Option.eq_none_or_eq_some (Value.ownBlock _) with h | ⟨x, h⟩; exact Or.inl h; exact Or.inr (by rw [h]; simp)))
      have hK1 := hK.grown (World.grownBy_alloc _ (.cells (Pl.refA f 5) 9) none) (fun k h => by cases h)
      go_wp2_with (at_builtin; refine wpList_append_own _ (hgd := rfl) (.tmp 7) (.tmp 9) 77 rfl w.heap.size 9 i0 (.string ⟨#[]⟩) 1 16 Try.underlying77 hi hz0 hz1 hz2 rfl (by decide) _ 101 (Pl.refCat f 5) rfl hown1 ⟨_, 0, none⟩ 61 61 (Pl.refA f 5).toList rfl ?hlen ?hnews ?hone (by unfold maxLen; omega) (by omega) ?hbase ?hnext)
      case hlen => rw [Array.length_toList, S5.out]
      case hnews => intro j u hu; exact alloc_cell _ _ _ j u hu
      case hone => exact fun u hu => List.all_eq_true.1 O5.out u hu
      case hbase => exact hK1.2.2
      case hnext =>
        intro v' w' hown' hgr hnil
        have hK2 := hK1.grown hgr (own_from hown1)
        go_wp2_with fail
        go_roundw
        case rel => exact ⟨6, 162, by omega, rfl, hown', .inr (.inr (.inr (.inr (.inr (.inr (⟨rfl, rfl⟩)))))), hK2⟩
        case measure => simp [intOf]
    · clear hkn hk
      go_wp2_with fail
      go_ret
      exact ⟨_, rfl, hown, hK⟩
end Go.Proofs.Ytenmbkngkabonaa
