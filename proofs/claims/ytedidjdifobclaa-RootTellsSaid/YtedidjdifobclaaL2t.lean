/- The walk of tympanlaw2.RootTells: the program's roots, signs and floors are the reference's. -/
import Derived.Test.YtedidjdifobclaaL2
import Derived.Test.YtedidjdifobclaaW13
namespace Go.Proofs.Ytedidjdifobclaa
set_option linter.unusedVariables false
open Go.RowKit

theorem tells2_core (n p q d m r c s v : Int) (sb vb : Bool) (hn : 0 ≤ n ∧ n ≤ 18446744073709551615)
    (C1 : Hid (∀ w, Calls Try.prog 40 #[.int .i64 p, .int .i64 q, .int .i64 d] w fun e w' => e = .returned (.tuple #[.int .i64 s, .bool sb]) ∧ Grown w w'))
    (C2 : Hid (∀ w, Calls Try.prog 45 #[.int .i64 p, .int .i64 q, .int .i64 d] w fun e w' => e = .returned (.tuple #[.int .i64 s, .bool sb]) ∧ w = w'))
    (C3 : Hid (∀ w, Calls Try.prog 41 #[.int .i64 p, .int .i64 q, .int .i64 d, .int .i64 m] w fun e w' => e = .returned (.tuple #[.int .i64 v, .bool vb]) ∧ Grown w w'))
    (C4 : Hid (∀ w, Calls Try.prog 46 #[.int .i64 p, .int .i64 q, .int .i64 d, .int .i64 m] w fun e w' => e = .returned (.tuple #[.int .i64 v, .bool vb]) ∧ w = w'))
    (hr : Hid (Pl.root n = r)) (hc : Hid (Pl.ceilr n = c)) (w : World) :
    Calls Try.prog 15 #[.int .u64 n, .int .i64 p, .int .i64 q, .int .i64 d, .int .i64 m] w fun e w' => e = .returned (.bool true) ∧ Grown w w' := by
  have F1 := Lib.hid (fun w => root_floor n hn w)
  have F2 := Lib.hid (fun w => root2_floor n hn w)
  have F3 := Lib.hid (fun w => root_ceil n hn w)
  have F4 := Lib.hid (fun w => root2_ceil n hn w)
  rw [hr.out] at F1 F2
  rw [hc.out] at F3 F4
  have e1 : (r == r) = true := by simp
  have e2 : (c == c) = true := by simp
  have e3 : (s == s) = true := by simp
  have e4 : (sb == sb) = true := by simp
  have e5 : (v == v) = true := by simp
  have e6 : (vb == vb) = true := by simp
  go_enter Try.func15, Try.ntmps15
  go_wp2_with fail
  refine (known2 _).mono ?_
  rintro e w1 ⟨rfl, g1⟩
  go_wp2_with fail
  refine (C1.out _).mono ?_
  rintro e w2 ⟨rfl, g2⟩
  go_wp2_with fail
  refine (C2.out _).mono ?_
  rintro e w3 ⟨rfl, rfl⟩
  go_wp2_with fail
  refine (C3.out _).mono ?_
  rintro e w3 ⟨rfl, g3⟩
  go_wp2_with fail
  refine (C4.out _).mono ?_
  rintro e w4 ⟨rfl, rfl⟩
  go_wp2_with fail
  refine (F1.out _).mono ?_
  rintro e w4 ⟨rfl, rfl⟩
  go_wp2_with fail
  refine (F2.out _).mono ?_
  rintro e w4 ⟨rfl, rfl⟩
  go_wp2_with fail
  refine (F3.out _).mono ?_
  rintro e w4 ⟨rfl, rfl⟩
  go_wp2_with fail
  refine (F4.out _).mono ?_
  rintro e w4 ⟨rfl, rfl⟩
  go_wp2_with fail
  go_ret
  exact ⟨ret_bool (by first | rfl | assumption), grown_trans g1 (grown_trans g2 g3)⟩

theorem walk_RootTells (n p q d m : Int) (w0 : (Lit.int .u64 n).wf = true) (w1 : (Lit.int .i64 p).wf = true) (w2 : (Lit.int .i64 q).wf = true) (w3 : (Lit.int .i64 d).wf = true) (w4 : (Lit.int .i64 m).wf = true) (w : World) :
    Calls Try.prog 15 #[.int .u64 n, .int .i64 p, .int .i64 q, .int .i64 d, .int .i64 m] w fun e w' => e = .returned (.bool true) ∧ Grown w w' := by
  have hn := bdu64 w0
  by_cases hs : Pl.okq q d ∧ -4611686018427387904 ≤ p ∧ p ≤ 4611686018427387904
  · by_cases hc : Pl.okc p q d m
    · exact tells2_core n p q d m _ _ _ _ true true hn (Lib.hid (rsign_ok p q d hs.2 hs.1)) (Lib.hid (rsign2_ok p q d hs.2 hs.1)) (Lib.hid (cut_ok p q d m hc)) (Lib.hid (cut2_ok p q d m hc)) (Lib.hid rfl) (Lib.hid rfl) w
    · exact tells2_core n p q d m _ _ _ _ true false hn (Lib.hid (rsign_ok p q d hs.2 hs.1)) (Lib.hid (rsign2_ok p q d hs.2 hs.1)) (Lib.hid (cut_no p q d m hc)) (Lib.hid (cut2_no p q d m hc)) (Lib.hid rfl) (Lib.hid rfl) w
  · have hc : ¬ Pl.okc p q d m := fun h => hs ⟨h.1, by have := h.2; omega⟩
    exact tells2_core n p q d m _ _ _ _ false false hn (Lib.hid (rsign_no p q d hs)) (Lib.hid (rsign2_no p q d hs)) (Lib.hid (cut_no p q d m hc)) (Lib.hid (cut2_no p q d m hc)) (Lib.hid rfl) (Lib.hid rfl) w
end Go.Proofs.Ytedidjdifobclaa
