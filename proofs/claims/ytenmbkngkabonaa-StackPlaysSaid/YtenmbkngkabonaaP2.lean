/- The walks of op.each's closures and of op.each with Count's. -/
import Derived.Test.YtenmbkngkabonaaP1
import Derived.Test.YtenmbkngkabonaaKit
import Derived.Lib.Hide
import Derived.Laws.RangeString
import Derived.Laws.RangeAny
namespace Go.Proofs.Ytenmbkngkabonaa
set_option linter.unusedVariables false
open Go.RowKit

theorem Pl.drop_at {T : ByteArray} {p : Nat} (h : p < T.size) : T.data.toList.drop p = (T[p]'h) :: T.data.toList.drop (p + 1) := by
  have h' : p < T.data.toList.length := by simpa using h
  rw [List.drop_eq_getElem_cons h']
  rfl
theorem Pl.drop_all {T : ByteArray} {p : Nat} (h : T.size ≤ p) : T.data.toList.drop p = [] := List.drop_eq_nil_of_le (by simpa using h)
theorem Pl.byte_lt {T : ByteArray} (ha : T.data.toList.all (fun b => decide (b < 128)) = true) {p : Nat} (h : p < T.size) : (T[p]'h).toNat < 128 := by
  have := List.all_eq_true.1 ha (T[p]'h) (by
    show T.data[p] ∈ T.data.toList
    exact Array.mem_toList_iff.2 (Array.getElem_mem _))
  simpa [UInt8.lt_iff_toNat_lt] using this

theorem frozen?_iter (w : World) (s : ByteArray) (p : Nat) (a : Addr) : (w.iter s p).frozen? a = w.frozen? a := by
  by_cases h : a.block = w.heap.size
  · have e1 : (w.iter s p).heap[a.block]? = some (.stringIter s p) := by rw [h]; exact World.iter_heap w s p
    have e2 : w.heap[a.block]? = none := by rw [h]; simp
    simp [World.frozen?, e1, e2]
  · exact World.frozen?_alloc_old _ _ _ h
theorem grown_iter {w W : World} (h : Grown w W) (s : ByteArray) (p : Nat) : Grown w (W.iter s p) :=
  ⟨World.keptBut_trans h.1 (World.keptBut_alloc _ _ _), fun a => (frozen?_iter _ _ _ a).trans (h.2.1 a), Nat.le_trans h.2.2 (by show W.heap.size ≤ (W.heap.push _).size; simp)⟩

theorem clos_count (n f : Int) (s : ByteArray) (c : Nat) (v : Value) (W : World) (h : W.cell? ⟨c, 0, none⟩ = some v) (hf : W.frozen? ⟨c, 0, none⟩ = false) :
    Calls Try.prog 61 #[.int .i64 n, .int .i64 f, .string s, .pointer (some ⟨c, 0, none⟩)] W fun e w' => e = .returned (.bool true) ∧ w' = W.setCell ⟨c, 0, none⟩ (.int .i64 n) := by
  go_enter Try.func61, Try.ntmps61
  go_wp2
  go_ret
  exact ⟨rfl, rfl⟩

/-- the state of the scan at a place, with a cell that counts -/
abbrev CntS (w0 w : World) (T : ByteArray) (c : Nat) (p n f s : Nat) (v : Value) (W : World) : Prop :=
  W.heap.size = w.heap.size ∧ W.cell? ⟨c, 0, none⟩ = some v ∧ W.frozen? ⟨c, 0, none⟩ = false ∧ Grown w0 W ∧
  Pl.scan (T.data.toList.drop p) p n f s = (Pl.yields T).drop (n - 1) ∧ 1 ≤ n ∧ n ≤ 163 ∧ 1 ≤ f ∧ f ≤ p + 1 ∧ s ≤ p ∧ p ≤ T.size

set_option maxRecDepth 100000 in
theorem each_count (T : ByteArray) (hT : rangedText Try.f58 = T) (ha : T.data.toList.all (fun b => decide (b < 128)) = true) (hl : (Pl.yields T).length = 162) (hs : T.size < 100000)
    (w0 w : World) (c : Nat) (hc : c < w.heap.size) (hc0 : w0.heap.size ≤ c) (hcell : w.cell? ⟨c, 0, none⟩ = some (.int .i64 0)) (hfz : w.frozen? ⟨c, 0, none⟩ = false) (hg : Grown w0 w) :
    Calls Try.prog 58 #[.func (.func 61) #[] #[.pointer (some ⟨c, 0, none⟩)]] w fun e w' => e = .returned (.tuple #[]) ∧ w'.cell? ⟨c, 0, none⟩ = some (.int .i64 162) ∧ Grown w0 w' := by
  go_enter Try.func58, Try.ntmps58
  rw [show (ByteArray.mk _ : ByteArray) = rangedText Try.f58 from rfl, hT]
  go_wp2_with fail
  go_loopw [2, 3, 4] (fun a b d wr => ∃ (p n f s : Nat) (W : World), wr = W.iter T p ∧ a = .int .i64 (n : Int) ∧ b = .int .i64 (f : Int) ∧ d = .int .i64 (s : Int) ∧ CntS w0 w T c p n f s (.int .i64 ((n : Int) - 1)) W) (fun _ _ _ wr => T.size - wr.iterPos w.heap.size)
  case atStart => exact ⟨0, 1, 1, 0, w, rfl, rfl, rfl, rfl, rfl, by simpa using hcell, hfz, hg, rfl, by omega, by omega, by omega, by omega, by omega⟩
  case round =>
    obtain ⟨p, n, f, s, W, rfl, rfl, rfl, rfl, hz, hcW, hfW, hgW, hscan, n1, n2, f1, f2, s1, p1⟩ := hrel
    by_cases hp : p < T.size
    · have hnx : ∀ ty, (Instr.next (.pointer (some ⟨w.heap.size, 0, none⟩)) true ty).run Try.prog (W.iter T p) = .ok (.tuple #[.bool true, .int .i64 p, .int .i32 (T[p]'hp).toNat]) (W.iter T (p + 1)) := fun ty => by rw [← hz]; exact run_next_ascii W T p ty hp (Pl.byte_lt ha hp)
      rw [Pl.drop_at hp] at hscan
      have hb := Pl.byte_lt ha hp
      by_cases b10 : T[p]'hp = 10
      · have e10 : ((T[p]'hp).toNat : Int) = 10 := by rw [b10]; rfl
        rw [e10] at hnx
        rw [Pl.scan, if_pos b10] at hscan
        have hS := Lib.hid hscan
        clear hscan
        go_wp2_with fail
        go_roundw
        case rel => exact ⟨p + 1, n, f + 1, p + 1, W, rfl, rfl, by go_num, by go_num, hz, hcW, hfW, hgW, hS.out, n1, n2, by omega, by omega, by omega, by omega⟩
        case measure => rw [← hz]; simp; omega
      by_cases b32 : T[p]'hp = 32
      · have e32 : ((T[p]'hp).toNat : Int) = 32 := by rw [b32]; rfl
        rw [e32] at hnx
        rw [Pl.scan, if_neg b10, if_pos b32] at hscan
        have hn : n - 1 < (Pl.yields T).length := by
          apply Nat.lt_of_not_le
          intro h
          rw [List.drop_eq_nil_of_le h] at hscan
          cases hscan
        have hS' : Pl.scan (T.data.toList.drop (p + 1)) (p + 1) (n + 1) f (p + 1) = (Pl.yields T).drop (n + 1 - 1) := by
          have := congrArg List.tail hscan
          rw [List.tail_cons, List.tail_drop] at this
          rw [this]; congr 1; omega
        have hS := Lib.hid hS'
        clear hscan hS'
        have hc2 : (W.iter T (p + 1)).cell? ⟨c, 0, none⟩ = some (.int .i64 ((n : Int) - 1)) := by rw [World.iter, World.cell?_alloc_past _ _ _ (by omega)]; exact hcW
        have hf2 : (W.iter T (p + 1)).frozen? ⟨c, 0, none⟩ = false := by rw [World.iter, World.frozen?_alloc_past _ _ _ (by omega)]; exact hfW
        go_wp2_with fail
        refine (clos_count _ _ _ c _ _ hc2 hf2).mono ?_
        rintro e w2 ⟨rfl, hw2⟩
        have hcomm : w2 = (W.setCell ⟨c, 0, none⟩ (.int .i64 n)).iter T (p + 1) := by rw [hw2]; exact World.setCell_alloc_past _ _ _ _ (by omega)
        clear hw2
        subst hcomm
        go_wp2_with fail
        go_roundw
        case rel => exact ⟨p + 1, n + 1, f, p + 1, W.setCell ⟨c, 0, none⟩ (.int .i64 n), rfl, by go_num, rfl, by go_num, by simpa using hz, by rw [World.cell?_setCell_same' _ _ _ (by rw [hcW]; rfl)]; congr 2; omega, by simpa using hfW, hgW.setCell (by omega) _, hS.out, by omega, by omega, by omega, by omega, by omega, by omega⟩
        case measure =>
          have hz' : (W.setCell ⟨c, 0, none⟩ (.int .i64 n)).heap.size = w.heap.size := by simpa using hz
          have i1 := World.iterPos_iter (W.setCell ⟨c, 0, none⟩ (.int .i64 n)) T (p + 1)
          have i2 := World.iterPos_iter W T p
          rw [hz'] at i1
          rw [hz] at i2
          rw [i1, i2]
          omega
      · have e10 : (((T[p]'hp).toNat : Int) == 10) = false := beq_eq_false_iff_ne.2 (fun h => b10 (UInt8.toNat_inj.1 (by show (T[p]'hp).toNat = 10; omega)))
        have e32 : (((T[p]'hp).toNat : Int) == 32) = false := beq_eq_false_iff_ne.2 (fun h => b32 (UInt8.toNat_inj.1 (by show (T[p]'hp).toNat = 32; omega)))
        rw [Pl.scan, if_neg b10, if_neg b32] at hscan
        have hS := Lib.hid hscan
        clear hscan
        generalize ((T[p]'hp).toNat : Int) = B at *
        go_wp2_with fail
        go_roundw
        case rel => exact ⟨p + 1, n, f, s, W, rfl, rfl, rfl, rfl, hz, hcW, hfW, hgW, hS.out, n1, n2, by omega, by omega, by omega, by omega⟩
        case measure => rw [← hz]; simp; omega
    · have hnx : ∀ ty, (Instr.next (.pointer (some ⟨w.heap.size, 0, none⟩)) true ty).run Try.prog (W.iter T p) = .ok (.tuple #[.bool false]) (W.iter T p) := fun ty => by rw [← hz]; exact run_next_end W T p ty hp
      rw [Pl.drop_all (by omega), Pl.scan] at hscan
      have hn : 162 ≤ n - 1 := by rw [← hl]; exact List.drop_eq_nil_iff.1 hscan.symm
      obtain rfl : n = 163 := by omega
      clear hscan
      go_wp2_with fail
      go_end0
      exact ⟨rfl, by rw [World.iter, World.cell?_alloc_past _ _ _ (by omega)]; exact hcW, grown_iter hgW T p⟩
end Go.Proofs.Ytenmbkngkabonaa
