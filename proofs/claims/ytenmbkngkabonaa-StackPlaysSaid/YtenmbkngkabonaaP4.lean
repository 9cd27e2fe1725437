/- op.each with the closure of op.Number. -/
import Derived.Test.YtenmbkngkabonaaP3
namespace Go.Proofs.Ytenmbkngkabonaa
set_option linter.unusedVariables false
open Go.RowKit

/-- the first that is yielded under a name -/
def Pl.opFind (T NM : ByteArray) : Option (Nat × Nat × Nat × Nat) := (Pl.yields T).find? (fun y => decide (T.extract y.2.2.1 y.2.2.2 = NM))
def Pl.opNum (T NM : ByteArray) : Int := match Pl.opFind T NM with | some y => (y.1 : Int) | none => 0

theorem clos_number_at (k f : Int) (s : ByteArray) (a c d : Nat) (v u : Value) (W : World) (ha : W.cell? ⟨a, 0, none⟩ = some (.string s)) (h : W.cell? ⟨c, 0, none⟩ = some v) (hf : W.frozen? ⟨c, 0, none⟩ = false)
    (h2 : W.cell? ⟨d, 0, none⟩ = some u) (hf2 : W.frozen? ⟨d, 0, none⟩ = false) (hcd : c ≠ d) (hac : a ≠ c) :
    Calls Try.prog 59 #[.int .i64 k, .int .i64 f, .string s, .pointer (some ⟨a, 0, none⟩), .pointer (some ⟨c, 0, none⟩), .pointer (some ⟨d, 0, none⟩)] W fun e w' => e = .returned (.bool false) ∧ w' = (W.setCell ⟨c, 0, none⟩ (.int .i64 k)).setCell ⟨d, 0, none⟩ (.bool true) := by
  have e1 : (W.setCell ⟨c, 0, none⟩ (.int .i64 k)).cell? ⟨d, 0, none⟩ = some u := by rw [World.cell?_setCell_other (h := by intro h; injection h with h; exact hcd h)]; exact h2
  have e2 : ((W.setCell ⟨c, 0, none⟩ (.int .i64 k)).setCell ⟨d, 0, none⟩ (.bool true)).cell? ⟨d, 0, none⟩ = some (.bool true) := World.cell?_setCell_same' _ _ _ (by rw [e1]; rfl)
  have hs : (s.toList == s.toList) = true := by simp
  go_enter Try.func59, Try.ntmps59
  go_wp2
  go_ret
  exact ⟨rfl, rfl⟩
theorem clos_number_off (k f : Int) (s NM : ByteArray) (a c d : Nat) (W : World) (ha : W.cell? ⟨a, 0, none⟩ = some (.string NM)) (h2 : W.cell? ⟨d, 0, none⟩ = some (.bool false)) (hn3 : ¬ s.toList = NM.toList) (hn4 : (s.toList == NM.toList) = false) :
    Calls Try.prog 59 #[.int .i64 k, .int .i64 f, .string s, .pointer (some ⟨a, 0, none⟩), .pointer (some ⟨c, 0, none⟩), .pointer (some ⟨d, 0, none⟩)] W fun e w' => e = .returned (.bool true) ∧ w' = W := by
  go_enter Try.func59, Try.ntmps59
  go_wp2
  go_ret
  exact ⟨rfl, rfl⟩

theorem Pl.toList_inj {s s' : ByteArray} : s.toList = s'.toList ↔ s = s' := ⟨fun e => by
    rw [ByteArray.toList_eq, ByteArray.toList_eq] at e
    obtain ⟨d⟩ := s
    obtain ⟨d'⟩ := s'
    simp at e
    subst e
    rfl, fun e => by rw [e]⟩

abbrev NumS (w0 w : World) (T NM : ByteArray) (a c d : Nat) (p n f s : Nat) (W : World) : Prop :=
  W.heap.size = w.heap.size ∧ W.cell? ⟨a, 0, none⟩ = some (.string NM) ∧ W.cell? ⟨c, 0, none⟩ = some (.int .i64 0) ∧ W.frozen? ⟨c, 0, none⟩ = false ∧ W.cell? ⟨d, 0, none⟩ = some (.bool false) ∧ W.frozen? ⟨d, 0, none⟩ = false ∧ Grown w0 W ∧
  Pl.opFind T NM = (Pl.scan (T.data.toList.drop p) p n f s).find? (fun y => decide (T.extract y.2.2.1 y.2.2.2 = NM)) ∧ 1 ≤ n ∧ n ≤ p + 1 ∧ 1 ≤ f ∧ f ≤ p + 1 ∧ s ≤ p ∧ p ≤ T.size

set_option maxHeartbeats 1000000 in
set_option maxRecDepth 100000 in
theorem each_number (T NM : ByteArray) (hT : rangedText Try.f58 = T) (ha : T.data.toList.all (fun b => decide (b < 128)) = true) (hs : T.size < 100000)
    (w0 w : World) (a c d : Nat) (hb : a < w.heap.size) (hc : c < w.heap.size) (hd : d < w.heap.size) (hac : a ≠ c) (had : a ≠ d) (hcd : c ≠ d) (hc0 : w0.heap.size ≤ c) (hd0 : w0.heap.size ≤ d)
    (hca : w.cell? ⟨a, 0, none⟩ = some (.string NM)) (hcell : w.cell? ⟨c, 0, none⟩ = some (.int .i64 0)) (hfz : w.frozen? ⟨c, 0, none⟩ = false) (hcell2 : w.cell? ⟨d, 0, none⟩ = some (.bool false)) (hfz2 : w.frozen? ⟨d, 0, none⟩ = false) (hg : Grown w0 w) :
    Calls Try.prog 58 #[.func (.func 59) #[] #[.pointer (some ⟨a, 0, none⟩), .pointer (some ⟨c, 0, none⟩), .pointer (some ⟨d, 0, none⟩)]] w fun e w' => e = .returned (.tuple #[]) ∧
      w'.cell? ⟨c, 0, none⟩ = some (.int .i64 (Pl.opNum T NM)) ∧ w'.cell? ⟨d, 0, none⟩ = some (.bool (Pl.opFind T NM).isSome) ∧ w'.frozen? ⟨c, 0, none⟩ = false ∧ w'.frozen? ⟨d, 0, none⟩ = false ∧ Grown w0 w' := by
  go_enter Try.func58, Try.ntmps58
  rw [show (ByteArray.mk _ : ByteArray) = rangedText Try.f58 from rfl, hT]
  go_wp2_with fail
  go_loopw [2, 3, 4] (fun u v x wr => ∃ (p n f s : Nat) (W : World), wr = W.iter T p ∧ u = .int .i64 (n : Int) ∧ v = .int .i64 (f : Int) ∧ x = .int .i64 (s : Int) ∧ NumS w0 w T NM a c d p n f s W) (fun _ _ _ wr => T.size - wr.iterPos w.heap.size)
  case atStart => exact ⟨0, 1, 1, 0, w, rfl, rfl, rfl, rfl, rfl, hca, hcell, hfz, hcell2, hfz2, hg, rfl, by omega, by omega, by omega, by omega, by omega, by omega⟩
  case round =>
    obtain ⟨p, n, f, s, W, rfl, rfl, rfl, rfl, hz, haW, hcW, hfW, hdW, hfdW, hgW, hscan, n1, n2, f1, f2, s1, p1⟩ := hrel
    by_cases hp : p < T.size
    · have hnx : ∀ ty, (Instr.next (.pointer (some ⟨w.heap.size, 0, none⟩)) true ty).run Try.prog (W.iter T p) = .ok (.tuple #[.bool true, .int .i64 p, .int .i32 (T[p]'hp).toNat]) (W.iter T (p + 1)) := fun ty => by rw [← hz]; exact run_next_ascii W T p ty hp (Pl.byte_lt ha hp)
      rw [Pl.drop_at hp] at hscan
      have hb' := Pl.byte_lt ha hp
      by_cases b10 : T[p]'hp = 10
      · have e10 : ((T[p]'hp).toNat : Int) = 10 := by rw [b10]; rfl
        rw [e10] at hnx
        rw [Pl.scan, if_pos b10] at hscan
        have hS := Lib.hid hscan
        clear hscan
        go_wp2_with fail
        go_roundw
        case rel => exact ⟨p + 1, n, f + 1, p + 1, W, rfl, rfl, by go_num, by go_num, hz, haW, hcW, hfW, hdW, hfdW, hgW, hS.out, n1, by omega, by omega, by omega, by omega, by omega⟩
        case measure => rw [← hz]; simp; omega
      by_cases b32 : T[p]'hp = 32
      · have e32 : ((T[p]'hp).toNat : Int) = 32 := by rw [b32]; rfl
        rw [e32] at hnx
        rw [Pl.scan, if_neg b10, if_pos b32, List.find?_cons] at hscan
        have ha2 : (W.iter T (p + 1)).cell? ⟨a, 0, none⟩ = some (.string NM) := by rw [World.iter, World.cell?_alloc_past _ _ _ (by omega)]; exact haW
        have hc2 : (W.iter T (p + 1)).cell? ⟨c, 0, none⟩ = some (.int .i64 0) := by rw [World.iter, World.cell?_alloc_past _ _ _ (by omega)]; exact hcW
        have hf2 : (W.iter T (p + 1)).frozen? ⟨c, 0, none⟩ = false := by rw [World.iter, World.frozen?_alloc_past _ _ _ (by omega)]; exact hfW
        have hd2 : (W.iter T (p + 1)).cell? ⟨d, 0, none⟩ = some (.bool false) := by rw [World.iter, World.cell?_alloc_past _ _ _ (by omega)]; exact hdW
        have hfd2 : (W.iter T (p + 1)).frozen? ⟨d, 0, none⟩ = false := by rw [World.iter, World.frozen?_alloc_past _ _ _ (by omega)]; exact hfdW
        by_cases hN : T.extract s p = NM
        · subst hN
          rw [decide_eq_true rfl] at hscan
          have hS := Lib.hid hscan
          clear hscan
          go_wp2_with fail
          refine (clos_number_at _ _ _ a c d _ _ _ ha2 hc2 hf2 hd2 hfd2 hcd hac).mono ?_
          rintro e w2 ⟨rfl, hw2⟩
          have hcomm : w2 = ((W.setCell ⟨c, 0, none⟩ (.int .i64 n)).setCell ⟨d, 0, none⟩ (.bool true)).iter T (p + 1) := by
            rw [hw2]
            have k1 : (W.iter T (p + 1)).setCell ⟨c, 0, none⟩ (.int .i64 n) = (W.setCell ⟨c, 0, none⟩ (.int .i64 n)).iter T (p + 1) := World.setCell_alloc_past _ _ _ _ (by omega)
            rw [k1]
            exact World.setCell_alloc_past _ _ _ _ (by simp; omega)
          clear hw2
          subst hcomm
          go_wp2_with fail
          (refine bodyPost_ret (v := .tuple #[]) (by simp [results, Try.results58, go_sem]) rfl ?_)
          have e1 : (W.setCell ⟨c, 0, none⟩ (.int .i64 n)).cell? ⟨d, 0, none⟩ = some (.bool false) := by rw [World.cell?_setCell_other (h := by intro h; injection h with h; exact hcd h)]; exact hdW
          refine ⟨rfl, ?_, ?_, ?_, ?_, grown_iter ((hgW.setCell (by omega) _).setCell (by omega) _) T (p + 1)⟩
          · rw [World.iter, World.cell?_alloc_past _ _ _ (by simp; omega), World.cell?_setCell_other (h := by intro h; injection h with h; exact hcd h.symm), World.cell?_setCell_same' _ _ _ (by rw [hcW]; rfl)]
            unfold Pl.opNum
            rw [hS.out]
          · rw [World.iter, World.cell?_alloc_past _ _ _ (by simp; omega), World.cell?_setCell_same' _ _ _ (by rw [e1]; rfl), hS.out]
            rfl
          · rw [World.iter, World.frozen?_alloc_past _ _ _ (by simp; omega)]; simpa using hfW
          · rw [World.iter, World.frozen?_alloc_past _ _ _ (by simp; omega)]; simpa using hfdW
        · rw [decide_eq_false hN] at hscan
          have hS := Lib.hid hscan
          clear hscan
          have hL : ¬ (T.extract s p).toList = NM.toList := fun e => hN (Pl.toList_inj.1 e)
          have C := Lib.hid (fun f' => clos_number_off (n : Int) f' (T.extract s p) NM a c d _ ha2 hd2 hL (beq_eq_false_iff_ne.2 hL))
          have hN := Lib.hid hN
          have hL := Lib.hid hL
          go_wp2_with fail
          refine (C.out _).mono ?_
          rintro e w2 ⟨rfl, rfl⟩
          go_wp2_with fail
          go_roundw
          case rel => exact ⟨p + 1, n + 1, f, p + 1, W, rfl, by go_num, rfl, by go_num, hz, haW, hcW, hfW, hdW, hfdW, hgW, hS.out, by omega, by omega, by omega, by omega, by omega, by omega⟩
          case measure => rw [← hz]; simp; omega
      · have e10 : (((T[p]'hp).toNat : Int) == 10) = false := beq_eq_false_iff_ne.2 (fun h => b10 (UInt8.toNat_inj.1 (by show (T[p]'hp).toNat = 10; omega)))
        have e32 : (((T[p]'hp).toNat : Int) == 32) = false := beq_eq_false_iff_ne.2 (fun h => b32 (UInt8.toNat_inj.1 (by show (T[p]'hp).toNat = 32; omega)))
        rw [Pl.scan, if_neg b10, if_neg b32] at hscan
        have hS := Lib.hid hscan
        clear hscan
        generalize ((T[p]'hp).toNat : Int) = B at *
        go_wp2_with fail
        go_roundw
        case rel => exact ⟨p + 1, n, f, s, W, rfl, rfl, rfl, rfl, hz, haW, hcW, hfW, hdW, hfdW, hgW, hS.out, n1, by omega, by omega, by omega, by omega, by omega⟩
        case measure => rw [← hz]; simp; omega
    · have hnx : ∀ ty, (Instr.next (.pointer (some ⟨w.heap.size, 0, none⟩)) true ty).run Try.prog (W.iter T p) = .ok (.tuple #[.bool false]) (W.iter T p) := fun ty => by rw [← hz]; exact run_next_end W T p ty hp
      rw [Pl.drop_all (by omega), Pl.scan] at hscan
      have hS := Lib.hid hscan
      clear hscan
      go_wp2_with fail
      go_end0
      refine ⟨rfl, ?_, ?_, ?_, ?_, grown_iter hgW T p⟩
      · rw [World.iter, World.cell?_alloc_past _ _ _ (by omega), hcW]
        unfold Pl.opNum
        rw [hS.out]
        rfl
      · rw [World.iter, World.cell?_alloc_past _ _ _ (by omega), hdW, hS.out]
        rfl
      · rw [World.iter, World.frozen?_alloc_past _ _ _ (by omega)]; exact hfW
      · rw [World.iter, World.frozen?_alloc_past _ _ _ (by omega)]; exact hfdW
end Go.Proofs.Ytenmbkngkabonaa
