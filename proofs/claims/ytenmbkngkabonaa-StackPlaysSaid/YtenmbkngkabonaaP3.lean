/- op.each with the closures of op.Name and op.Family (printed by wip/gen_each.py). -/
import Derived.Test.YtenmbkngkabonaaP2
namespace Go.Proofs.Ytenmbkngkabonaa
set_option linter.unusedVariables false
open Go.RowKit

/-- what is yielded at a number -/
def Pl.opAt (T : ByteArray) (N : Int) : Option (Nat × Nat × Nat × Nat) := if 1 ≤ N then (Pl.yields T)[(N - 1).toNat]? else none
def Pl.opWord (T : ByteArray) (N : Int) : ByteArray := match Pl.opAt T N with | some y => T.extract y.2.2.1 y.2.2.2 | none => ⟨#[]⟩
def Pl.opFam (T : ByteArray) (N : Int) : Int := match Pl.opAt T N with | some y => (y.2.1 : Int) | none => 0
theorem Pl.opAt_low (T : ByteArray) (N : Int) (h : N < 1) : Pl.opAt T N = none := if_neg (by omega)
theorem Pl.opAt_high (T : ByteArray) (N : Int) (h : (Pl.yields T).length < N) : Pl.opAt T N = none := by
  unfold Pl.opAt
  rw [if_pos (by omega)]
  exact List.getElem?_eq_none (by omega)
theorem Pl.opAt_of (T : ByteArray) (n : Nat) (y : Nat × Nat × Nat × Nat) (r : List (Nat × Nat × Nat × Nat)) (h : y :: r = (Pl.yields T).drop (n - 1)) (hn : 1 ≤ n) : Pl.opAt T (n : Int) = some y := by
  unfold Pl.opAt
  rw [if_pos (by omega), show ((n : Int) - 1).toNat = n - 1 by omega]
  have : ((Pl.yields T).drop (n - 1))[0]? = some y := by rw [← h]; rfl
  rw [List.getElem?_drop] at this
  simpa using this

theorem clos_name_at (k f : Int) (s : ByteArray) (b c : Nat) (v : Value) (W : World) (hb : W.cell? ⟨b, 0, none⟩ = some (.int .i64 k)) (h : W.cell? ⟨c, 0, none⟩ = some v) (hf : W.frozen? ⟨c, 0, none⟩ = false) (hbc : b ≠ c) :
    Calls Try.prog 62 #[.int .i64 k, .int .i64 f, .string s, .pointer (some ⟨b, 0, none⟩), .pointer (some ⟨c, 0, none⟩)] W fun e w' => e = .returned (.bool false) ∧ w' = W.setCell ⟨c, 0, none⟩ (.string s) := by
  have h2 : (W.setCell ⟨c, 0, none⟩ (.string s)).cell? ⟨b, 0, none⟩ = some (.int .i64 k) := by rw [World.cell?_setCell_other (h := by intro h; injection h with h; exact hbc h.symm)]; exact hb
  go_enter Try.func62, Try.ntmps62
  go_wp2
  go_ret
  exact ⟨rfl, rfl⟩
theorem clos_name_off (k f N : Int) (s : ByteArray) (b c : Nat) (W : World) (hb : W.cell? ⟨b, 0, none⟩ = some (.int .i64 N)) (hn : (k == N) = false) :
    Calls Try.prog 62 #[.int .i64 k, .int .i64 f, .string s, .pointer (some ⟨b, 0, none⟩), .pointer (some ⟨c, 0, none⟩)] W fun e w' => e = .returned (.bool (decide (k < N))) ∧ w' = W := by
  go_enter Try.func62, Try.ntmps62
  go_wp2
  go_ret
  exact ⟨rfl, rfl⟩

abbrev NameS (w0 w : World) (T : ByteArray) (b c : Nat) (N : Int) (p n f s : Nat) (W : World) : Prop :=
  W.heap.size = w.heap.size ∧ W.cell? ⟨b, 0, none⟩ = some (.int .i64 N) ∧ W.cell? ⟨c, 0, none⟩ = some (.string ⟨#[]⟩) ∧ W.frozen? ⟨c, 0, none⟩ = false ∧ Grown w0 W ∧
  Pl.scan (T.data.toList.drop p) p n f s = (Pl.yields T).drop (n - 1) ∧ 1 ≤ n ∧ n ≤ 163 ∧ 1 ≤ f ∧ f ≤ p + 1 ∧ s ≤ p ∧ p ≤ T.size ∧ (n = 1 ∨ (n : Int) ≤ N)

set_option maxHeartbeats 1000000 in
set_option maxRecDepth 100000 in
theorem each_name (T : ByteArray) (hT : rangedText Try.f58 = T) (ha : T.data.toList.all (fun b => decide (b < 128)) = true) (hl : (Pl.yields T).length = 162) (hs : T.size < 100000)
    (w0 w : World) (b c : Nat) (N : Int) (hb : b < w.heap.size) (hc : c < w.heap.size) (hbc : b ≠ c) (hc0 : w0.heap.size ≤ c) (hcb : w.cell? ⟨b, 0, none⟩ = some (.int .i64 N)) (hcell : w.cell? ⟨c, 0, none⟩ = some (.string ⟨#[]⟩)) (hfz : w.frozen? ⟨c, 0, none⟩ = false) (hg : Grown w0 w) :
    Calls Try.prog 58 #[.func (.func 62) #[] #[.pointer (some ⟨b, 0, none⟩), .pointer (some ⟨c, 0, none⟩)]] w fun e w' => e = .returned (.tuple #[]) ∧ w'.cell? ⟨c, 0, none⟩ = some (.string (Pl.opWord T N)) ∧ Grown w0 w' := by
  go_enter Try.func58, Try.ntmps58
  rw [show (ByteArray.mk _ : ByteArray) = rangedText Try.f58 from rfl, hT]
  go_wp2_with fail
  go_loopw [2, 3, 4] (fun u v d wr => ∃ (p n f s : Nat) (W : World), wr = W.iter T p ∧ u = .int .i64 (n : Int) ∧ v = .int .i64 (f : Int) ∧ d = .int .i64 (s : Int) ∧ NameS w0 w T b c N p n f s W) (fun _ _ _ wr => T.size - wr.iterPos w.heap.size)
  case atStart => exact ⟨0, 1, 1, 0, w, rfl, rfl, rfl, rfl, rfl, hcb, hcell, hfz, hg, rfl, by omega, by omega, by omega, by omega, by omega, by omega, .inl rfl⟩
  case round =>
    obtain ⟨p, n, f, s, W, rfl, rfl, rfl, rfl, hz, hbW, hcW, hfW, hgW, hscan, n1, n2, f1, f2, s1, p1, nN⟩ := hrel
    by_cases hp : p < T.size
    · have hnx : ∀ ty, (Instr.next (.pointer (some ⟨w.heap.size, 0, none⟩)) true ty).run Try.prog (W.iter T p) = .ok (.tuple #[.bool true, .int .i64 p, .int .i32 (T[p]'hp).toNat]) (W.iter T (p + 1)) := fun ty => by rw [← hz]; exact run_next_ascii W T p ty hp (Pl.byte_lt ha hp)
      rw [Pl.drop_at hp] at hscan
      have hb' := Pl.byte_lt ha hp
      by_cases b10 : T[p]'hp = 10
      · have e10 : ((T[p]'hp).toNat : Int) = 10 := by rw [b10]; rfl
        rw [e10] at hnx
        rw [Pl.scan, if_pos b10] at hscan
        have hS := Lib.hid hscan
        clear hscan
        go_wp2_with fail
        go_roundw
        case rel => exact ⟨p + 1, n, f + 1, p + 1, W, rfl, rfl, by go_num, by go_num, hz, hbW, hcW, hfW, hgW, hS.out, n1, n2, by omega, by omega, by omega, by omega, nN⟩
        case measure => rw [← hz]; simp; omega
      by_cases b32 : T[p]'hp = 32
      · have e32 : ((T[p]'hp).toNat : Int) = 32 := by rw [b32]; rfl
        rw [e32] at hnx
        rw [Pl.scan, if_neg b10, if_pos b32] at hscan
        have hn : n - 1 < (Pl.yields T).length := by
          apply Nat.lt_of_not_le
          intro h
          rw [List.drop_eq_nil_of_le h] at hscan
          cases hscan
        have hat := Lib.hid (Pl.opAt_of T n _ _ hscan n1)
        have hS' : Pl.scan (T.data.toList.drop (p + 1)) (p + 1) (n + 1) f (p + 1) = (Pl.yields T).drop (n + 1 - 1) := by
          have := congrArg List.tail hscan
          rw [List.tail_cons, List.tail_drop] at this
          rw [this]; congr 1; omega
        have hS := Lib.hid hS'
        clear hscan hS'
        have hb2 : (W.iter T (p + 1)).cell? ⟨b, 0, none⟩ = some (.int .i64 N) := by rw [World.iter, World.cell?_alloc_past _ _ _ (by omega)]; exact hbW
        have hc2 : (W.iter T (p + 1)).cell? ⟨c, 0, none⟩ = some (.string ⟨#[]⟩) := by rw [World.iter, World.cell?_alloc_past _ _ _ (by omega)]; exact hcW
        have hf2 : (W.iter T (p + 1)).frozen? ⟨c, 0, none⟩ = false := by rw [World.iter, World.frozen?_alloc_past _ _ _ (by omega)]; exact hfW
        by_cases hN : (n : Int) = N
        · subst hN
          go_wp2_with fail
          refine (clos_name_at _ _ _ b c _ _ hb2 hc2 hf2 hbc).mono ?_
          rintro e w2 ⟨rfl, hw2⟩
          have hcomm : w2 = (W.setCell ⟨c, 0, none⟩ (.string (T.extract s p))).iter T (p + 1) := by rw [hw2]; exact World.setCell_alloc_past _ _ _ _ (by omega)
          clear hw2
          subst hcomm
          go_wp2_with fail
          (refine bodyPost_ret (v := .tuple #[]) (by simp [results, Try.results58, go_sem]) rfl ?_)
          refine ⟨rfl, ?_, grown_iter (hgW.setCell (by omega) _) T (p + 1)⟩
          rw [World.iter, World.cell?_alloc_past _ _ _ (by simp; omega), World.cell?_setCell_same' _ _ _ (by rw [hcW]; rfl)]
          unfold Pl.opWord
          rw [hat.out]
        · have hN' : ((n : Int) == N) = false := beq_eq_false_iff_ne.2 hN
          by_cases hlt : (n : Int) < N
          · have C := fun f' s' => clos_name_off (n : Int) f' N s' b c _ hb2 hN'
            rw [decide_eq_true hlt] at C
            have C := Lib.hid C
            go_wp2_with fail
            refine (C.out _ _).mono ?_
            rintro e w2 ⟨rfl, rfl⟩
            go_wp2_with fail
            go_roundw
            case rel => exact ⟨p + 1, n + 1, f, p + 1, W, rfl, by go_num, rfl, by go_num, hz, hbW, hcW, hfW, hgW, hS.out, by omega, by omega, by omega, by omega, by omega, by omega, .inr (by omega)⟩
            case measure => rw [← hz]; simp; omega
          · have C := fun f' s' => clos_name_off (n : Int) f' N s' b c _ hb2 hN'
            rw [decide_eq_false hlt] at C
            have C := Lib.hid C
            go_wp2_with fail
            refine (C.out _ _).mono ?_
            rintro e w2 ⟨rfl, rfl⟩
            go_wp2_with fail
            (refine bodyPost_ret (v := .tuple #[]) (by simp [results, Try.results58, go_sem]) rfl ?_)
            refine ⟨rfl, ?_, grown_iter hgW T (p + 1)⟩
            rw [hc2]
            unfold Pl.opWord
            rw [Pl.opAt_low T N (by omega)]
      · have e10 : (((T[p]'hp).toNat : Int) == 10) = false := beq_eq_false_iff_ne.2 (fun h => b10 (UInt8.toNat_inj.1 (by show (T[p]'hp).toNat = 10; omega)))
        have e32 : (((T[p]'hp).toNat : Int) == 32) = false := beq_eq_false_iff_ne.2 (fun h => b32 (UInt8.toNat_inj.1 (by show (T[p]'hp).toNat = 32; omega)))
        rw [Pl.scan, if_neg b10, if_neg b32] at hscan
        have hS := Lib.hid hscan
        clear hscan
        generalize ((T[p]'hp).toNat : Int) = B at *
        go_wp2_with fail
        go_roundw
        case rel => exact ⟨p + 1, n, f, s, W, rfl, rfl, rfl, rfl, hz, hbW, hcW, hfW, hgW, hS.out, n1, n2, by omega, by omega, by omega, by omega, nN⟩
        case measure => rw [← hz]; simp; omega
    · have hnx : ∀ ty, (Instr.next (.pointer (some ⟨w.heap.size, 0, none⟩)) true ty).run Try.prog (W.iter T p) = .ok (.tuple #[.bool false]) (W.iter T p) := fun ty => by rw [← hz]; exact run_next_end W T p ty hp
      rw [Pl.drop_all (by omega), Pl.scan] at hscan
      have hn : 162 ≤ n - 1 := by rw [← hl]; exact List.drop_eq_nil_iff.1 hscan.symm
      clear hscan
      go_wp2_with fail
      go_end0
      refine ⟨rfl, ?_, grown_iter hgW T p⟩
      rw [World.iter, World.cell?_alloc_past _ _ _ (by omega), hcW]
      unfold Pl.opWord
      rw [Pl.opAt_high T N (by omega)]

theorem clos_family_at (k f : Int) (s : ByteArray) (b c : Nat) (v : Value) (W : World) (hb : W.cell? ⟨b, 0, none⟩ = some (.int .i64 k)) (h : W.cell? ⟨c, 0, none⟩ = some v) (hf : W.frozen? ⟨c, 0, none⟩ = false) (hbc : b ≠ c) :
    Calls Try.prog 63 #[.int .i64 k, .int .i64 f, .string s, .pointer (some ⟨b, 0, none⟩), .pointer (some ⟨c, 0, none⟩)] W fun e w' => e = .returned (.bool false) ∧ w' = W.setCell ⟨c, 0, none⟩ (.int .i64 f) := by
  have h2 : (W.setCell ⟨c, 0, none⟩ (.int .i64 f)).cell? ⟨b, 0, none⟩ = some (.int .i64 k) := by rw [World.cell?_setCell_other (h := by intro h; injection h with h; exact hbc h.symm)]; exact hb
  go_enter Try.func63, Try.ntmps63
  go_wp2
  go_ret
  exact ⟨rfl, rfl⟩
theorem clos_family_off (k f N : Int) (s : ByteArray) (b c : Nat) (W : World) (hb : W.cell? ⟨b, 0, none⟩ = some (.int .i64 N)) (hn : (k == N) = false) :
    Calls Try.prog 63 #[.int .i64 k, .int .i64 f, .string s, .pointer (some ⟨b, 0, none⟩), .pointer (some ⟨c, 0, none⟩)] W fun e w' => e = .returned (.bool (decide (k < N))) ∧ w' = W := by
  go_enter Try.func63, Try.ntmps63
  go_wp2
  go_ret
  exact ⟨rfl, rfl⟩

abbrev FamilyS (w0 w : World) (T : ByteArray) (b c : Nat) (N : Int) (p n f s : Nat) (W : World) : Prop :=
  W.heap.size = w.heap.size ∧ W.cell? ⟨b, 0, none⟩ = some (.int .i64 N) ∧ W.cell? ⟨c, 0, none⟩ = some (.int .i64 0) ∧ W.frozen? ⟨c, 0, none⟩ = false ∧ Grown w0 W ∧
  Pl.scan (T.data.toList.drop p) p n f s = (Pl.yields T).drop (n - 1) ∧ 1 ≤ n ∧ n ≤ 163 ∧ 1 ≤ f ∧ f ≤ p + 1 ∧ s ≤ p ∧ p ≤ T.size ∧ (n = 1 ∨ (n : Int) ≤ N)

set_option maxHeartbeats 1000000 in
set_option maxRecDepth 100000 in
theorem each_family (T : ByteArray) (hT : rangedText Try.f58 = T) (ha : T.data.toList.all (fun b => decide (b < 128)) = true) (hl : (Pl.yields T).length = 162) (hs : T.size < 100000)
    (w0 w : World) (b c : Nat) (N : Int) (hb : b < w.heap.size) (hc : c < w.heap.size) (hbc : b ≠ c) (hc0 : w0.heap.size ≤ c) (hcb : w.cell? ⟨b, 0, none⟩ = some (.int .i64 N)) (hcell : w.cell? ⟨c, 0, none⟩ = some (.int .i64 0)) (hfz : w.frozen? ⟨c, 0, none⟩ = false) (hg : Grown w0 w) :
    Calls Try.prog 58 #[.func (.func 63) #[] #[.pointer (some ⟨b, 0, none⟩), .pointer (some ⟨c, 0, none⟩)]] w fun e w' => e = .returned (.tuple #[]) ∧ w'.cell? ⟨c, 0, none⟩ = some (.int .i64 (Pl.opFam T N)) ∧ Grown w0 w' := by
  go_enter Try.func58, Try.ntmps58
  rw [show (ByteArray.mk _ : ByteArray) = rangedText Try.f58 from rfl, hT]
  go_wp2_with fail
  go_loopw [2, 3, 4] (fun u v d wr => ∃ (p n f s : Nat) (W : World), wr = W.iter T p ∧ u = .int .i64 (n : Int) ∧ v = .int .i64 (f : Int) ∧ d = .int .i64 (s : Int) ∧ FamilyS w0 w T b c N p n f s W) (fun _ _ _ wr => T.size - wr.iterPos w.heap.size)
  case atStart => exact ⟨0, 1, 1, 0, w, rfl, rfl, rfl, rfl, rfl, hcb, hcell, hfz, hg, rfl, by omega, by omega, by omega, by omega, by omega, by omega, .inl rfl⟩
  case round =>
    obtain ⟨p, n, f, s, W, rfl, rfl, rfl, rfl, hz, hbW, hcW, hfW, hgW, hscan, n1, n2, f1, f2, s1, p1, nN⟩ := hrel
    by_cases hp : p < T.size
    · have hnx : ∀ ty, (Instr.next (.pointer (some ⟨w.heap.size, 0, none⟩)) true ty).run Try.prog (W.iter T p) = .ok (.tuple #[.bool true, .int .i64 p, .int .i32 (T[p]'hp).toNat]) (W.iter T (p + 1)) := fun ty => by rw [← hz]; exact run_next_ascii W T p ty hp (Pl.byte_lt ha hp)
      rw [Pl.drop_at hp] at hscan
      have hb' := Pl.byte_lt ha hp
      by_cases b10 : T[p]'hp = 10
      · have e10 : ((T[p]'hp).toNat : Int) = 10 := by rw [b10]; rfl
        rw [e10] at hnx
        rw [Pl.scan, if_pos b10] at hscan
        have hS := Lib.hid hscan
        clear hscan
        go_wp2_with fail
        go_roundw
        case rel => exact ⟨p + 1, n, f + 1, p + 1, W, rfl, rfl, by go_num, by go_num, hz, hbW, hcW, hfW, hgW, hS.out, n1, n2, by omega, by omega, by omega, by omega, nN⟩
        case measure => rw [← hz]; simp; omega
      by_cases b32 : T[p]'hp = 32
      · have e32 : ((T[p]'hp).toNat : Int) = 32 := by rw [b32]; rfl
        rw [e32] at hnx
        rw [Pl.scan, if_neg b10, if_pos b32] at hscan
        have hn : n - 1 < (Pl.yields T).length := by
          apply Nat.lt_of_not_le
          intro h
          rw [List.drop_eq_nil_of_le h] at hscan
          cases hscan
        have hat := Lib.hid (Pl.opAt_of T n _ _ hscan n1)
        have hS' : Pl.scan (T.data.toList.drop (p + 1)) (p + 1) (n + 1) f (p + 1) = (Pl.yields T).drop (n + 1 - 1) := by
          have := congrArg List.tail hscan
          rw [List.tail_cons, List.tail_drop] at this
          rw [this]; congr 1; omega
        have hS := Lib.hid hS'
        clear hscan hS'
        have hb2 : (W.iter T (p + 1)).cell? ⟨b, 0, none⟩ = some (.int .i64 N) := by rw [World.iter, World.cell?_alloc_past _ _ _ (by omega)]; exact hbW
        have hc2 : (W.iter T (p + 1)).cell? ⟨c, 0, none⟩ = some (.int .i64 0) := by rw [World.iter, World.cell?_alloc_past _ _ _ (by omega)]; exact hcW
        have hf2 : (W.iter T (p + 1)).frozen? ⟨c, 0, none⟩ = false := by rw [World.iter, World.frozen?_alloc_past _ _ _ (by omega)]; exact hfW
        by_cases hN : (n : Int) = N
        · subst hN
          go_wp2_with fail
          refine (clos_family_at _ _ _ b c _ _ hb2 hc2 hf2 hbc).mono ?_
          rintro e w2 ⟨rfl, hw2⟩
          have hcomm : w2 = (W.setCell ⟨c, 0, none⟩ (.int .i64 f)).iter T (p + 1) := by rw [hw2]; exact World.setCell_alloc_past _ _ _ _ (by omega)
          clear hw2
          subst hcomm
          go_wp2_with fail
          (refine bodyPost_ret (v := .tuple #[]) (by simp [results, Try.results58, go_sem]) rfl ?_)
          refine ⟨rfl, ?_, grown_iter (hgW.setCell (by omega) _) T (p + 1)⟩
          rw [World.iter, World.cell?_alloc_past _ _ _ (by simp; omega), World.cell?_setCell_same' _ _ _ (by rw [hcW]; rfl)]
          unfold Pl.opFam
          rw [hat.out]
        · have hN' : ((n : Int) == N) = false := beq_eq_false_iff_ne.2 hN
          by_cases hlt : (n : Int) < N
          · have C := fun f' s' => clos_family_off (n : Int) f' N s' b c _ hb2 hN'
            rw [decide_eq_true hlt] at C
            have C := Lib.hid C
            go_wp2_with fail
            refine (C.out _ _).mono ?_
            rintro e w2 ⟨rfl, rfl⟩
            go_wp2_with fail
            go_roundw
            case rel => exact ⟨p + 1, n + 1, f, p + 1, W, rfl, by go_num, rfl, by go_num, hz, hbW, hcW, hfW, hgW, hS.out, by omega, by omega, by omega, by omega, by omega, by omega, .inr (by omega)⟩
            case measure => rw [← hz]; simp; omega
          · have C := fun f' s' => clos_family_off (n : Int) f' N s' b c _ hb2 hN'
            rw [decide_eq_false hlt] at C
            have C := Lib.hid C
            go_wp2_with fail
            refine (C.out _ _).mono ?_
            rintro e w2 ⟨rfl, rfl⟩
            go_wp2_with fail
            (refine bodyPost_ret (v := .tuple #[]) (by simp [results, Try.results58, go_sem]) rfl ?_)
            refine ⟨rfl, ?_, grown_iter hgW T (p + 1)⟩
            rw [hc2]
            unfold Pl.opFam
            rw [Pl.opAt_low T N (by omega)]
      · have e10 : (((T[p]'hp).toNat : Int) == 10) = false := beq_eq_false_iff_ne.2 (fun h => b10 (UInt8.toNat_inj.1 (by show (T[p]'hp).toNat = 10; omega)))
        have e32 : (((T[p]'hp).toNat : Int) == 32) = false := beq_eq_false_iff_ne.2 (fun h => b32 (UInt8.toNat_inj.1 (by show (T[p]'hp).toNat = 32; omega)))
        rw [Pl.scan, if_neg b10, if_neg b32] at hscan
        have hS := Lib.hid hscan
        clear hscan
        generalize ((T[p]'hp).toNat : Int) = B at *
        go_wp2_with fail
        go_roundw
        case rel => exact ⟨p + 1, n, f, s, W, rfl, rfl, rfl, rfl, hz, hbW, hcW, hfW, hgW, hS.out, n1, n2, by omega, by omega, by omega, by omega, nN⟩
        case measure => rw [← hz]; simp; omega
    · have hnx : ∀ ty, (Instr.next (.pointer (some ⟨w.heap.size, 0, none⟩)) true ty).run Try.prog (W.iter T p) = .ok (.tuple #[.bool false]) (W.iter T p) := fun ty => by rw [← hz]; exact run_next_end W T p ty hp
      rw [Pl.drop_all (by omega), Pl.scan] at hscan
      have hn : 162 ≤ n - 1 := by rw [← hl]; exact List.drop_eq_nil_iff.1 hscan.symm
      clear hscan
      go_wp2_with fail
      go_end0
      refine ⟨rfl, ?_, grown_iter hgW T p⟩
      rw [World.iter, World.cell?_alloc_past _ _ _ (by omega), hcW]
      unfold Pl.opFam
      rw [Pl.opAt_high T N (by omega)]
end Go.Proofs.Ytenmbkngkabonaa
