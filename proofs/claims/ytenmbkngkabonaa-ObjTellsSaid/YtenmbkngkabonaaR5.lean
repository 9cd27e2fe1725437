/- obj and tympanref10: Less, Same, Num, May answer alike. -/
import Derived.Test.YtenmbkngkabonaaR4
import Derived.Test.YtenmbkngkabonaaR6
import Derived.Test.YtenmbkngkabonaaO12
namespace Go.Proofs.Ytenmbkngkabonaa
set_option linter.unusedVariables false
open Go.RowKit

theorem may2_ex (k : Int) (x : Bool) (n a l : Int) (s : ByteArray) : ∃ m : Bool, (∀ W, MayIs m k x n a l s W) ∧
    ∀ W, Calls Try.prog 47 #[obv k x n a l s] W fun e w' => e = Ending.returned (.bool m) ∧ Grown W w' := by
  by_cases h : Pl.may k n a l s
  · exact ⟨true, fun W => may_yes k x n a l s h W, fun W => rmay_any k x n a l s true (by simp [h]) W⟩
  · exact ⟨false, fun W => may_no k x n a l s h W, fun W => rmay_any k x n a l s false (by simp [h]) W⟩

theorem less2_ex (k : Int) (x : Bool) (n a l : Int) (s : ByteArray) (k' : Int) (x' : Bool) (n' a' l' : Int) (s' : ByteArray) : ∃ p o : Bool,
    (∀ W, Calls Try.prog 33 #[obv k x n a l s, obv k' x' n' a' l' s'] W fun e w' => e = Ending.returned (.tuple #[.bool p, .bool o]) ∧ Grown W w') ∧
    ∀ W, Calls Try.prog 44 #[obv k x n a l s, obv k' x' n' a' l' s'] W fun e w' => e = Ending.returned (.tuple #[.bool p, .bool o]) ∧ Grown W w' := by
  obtain ⟨z, ok, hok, hz, C⟩ := size_any k false n a l s
  obtain ⟨z', ok', hok', hz', C'⟩ := size_any k' false n' a' l' s'
  refine ⟨_, _, fun W => less_by k x n a l s k' x' n' a' l' s' z z' ok ok' (Lib.hid fun W => C x W) (Lib.hid fun W => C' x' W) W, ?_⟩
  clear C C'
  have NA := Lib.hid (fun W => rnumber_any k x n a l s ok hok W)
  have NB := Lib.hid (fun W => rnumber_any k' x' n' a' l' s' ok' hok' W)
  cases ok with
  | false => exact fun W => rless_noa k x n a l s k' x' n' a' l' s' NA W
  | true =>
    cases ok' with
    | false => exact fun W => rless_nob k x n a l s k' x' n' a' l' s' NA NB W
    | true =>
      have i := (hok.1 rfl).1
      have i' := (hok'.1 rfl).1
      obtain rfl := hz (hok.1 rfl)
      obtain rfl := hz' (hok'.1 rfl)
      exact fun W => rless_both k x n a l s k' x' n' a' l' s' _ _ NA NB (Lib.hid fun W => rsize_num k x n a l s i W) (Lib.hid fun W => rsize_num k' x' n' a' l' s' i' W) W

theorem Pl.toList_inj {s s' : ByteArray} : s.toList = s'.toList ↔ s = s' := ⟨fun e => by
    rw [ByteArray.toList_eq, ByteArray.toList_eq] at e
    obtain ⟨d⟩ := s
    obtain ⟨d'⟩ := s'
    simp at e
    subst e
    rfl, fun e => by rw [e]⟩

theorem same2_ex (k : Int) (x : Bool) (n a l : Int) (s : ByteArray) (k' : Int) (x' : Bool) (n' a' l' : Int) (s' : ByteArray) : ∃ r : Bool,
    (∀ W, SameIs r k x n a l s k' x' n' a' l' s' W) ∧
    ∀ W, Calls Try.prog 48 #[obv k x n a l s, obv k' x' n' a' l' s'] W fun e w' => e = Ending.returned (.bool r) ∧ Grown W w' := by
  obtain ⟨z, ok, hok, hz, C⟩ := size_any k false n a l s
  obtain ⟨z', ok', hok', hz', C'⟩ := size_any k' false n' a' l' s'
  have N := fun x x' W => numbers_by k x n a l s k' x' n' a' l' s' z z' ok ok' (Lib.hid fun W => C x W) (Lib.hid fun W => C' x' W) W
  clear C C'
  have NA := Lib.hid (fun W => rnumber_any k x n a l s ok hok W)
  have NB := Lib.hid (fun W => rnumber_any k' x' n' a' l' s' ok' hok' W)
  by_cases hb : ok = true ∧ ok' = true
  · obtain ⟨rfl, rfl⟩ := hb
    have i := (hok.1 rfl).1
    have i' := (hok'.1 rfl).1
    obtain rfl := hz (hok.1 rfl)
    obtain rfl := hz' (hok'.1 rfl)
    exact ⟨_, fun W => same_nums k x n a l s k' x' n' a' l' s' _ _ (Lib.hid fun W => N x x' W) W,
      fun W => rsame_both k x n a l s k' x' n' a' l' s' _ _ NA NB (Lib.hid fun W => rsize_num k x n a l s i W) (Lib.hid fun W => rsize_num k' x' n' a' l' s' i' W) W⟩
  · have hf : (ok && ok') = false := by cases ok <;> cases ok' <;> simp at hb ⊢
    rw [hf] at N
    obtain ⟨r, hr⟩ : ∃ r : Bool, r = true ↔ (k = k' ∧ n = n' ∧ a = a' ∧ l = l' ∧ s = s') := by
      by_cases e : k = k' ∧ n = n' ∧ a = a' ∧ l = l' ∧ s = s'
      · exact ⟨true, by simp only [e, and_self]⟩
      · exact ⟨false, ⟨fun h => (by cases h), fun h => absurd h e⟩⟩
    have hr2 : r = true ↔ (k = k' ∧ n = n' ∧ a = a' ∧ l = l' ∧ s.toList = s'.toList) := by rw [Pl.toList_inj]; exact hr
    refine ⟨r, fun W => same_off k n a l s k' n' a' l' s' z z' r hr (Lib.hid N) x x' W, ?_⟩
    cases ok with
    | false => exact fun W => rsame_noa k x n a l s k' x' n' a' l' s' r hr2 NA W
    | true =>
      cases ok' with
      | false => exact fun W => rsame_nob k x n a l s k' x' n' a' l' s' r hr2 NA NB W
      | true => exact absurd ⟨rfl, rfl⟩ hb

theorem num2_ex (k : Int) (x : Bool) (n a l : Int) (s : ByteArray) : ∃ (v : Int) (ok : Bool),
    (∀ W, Calls Try.prog 45 #[obv k x n a l s] W fun e w' => e = Ending.returned (.tuple #[.int .i64 v, .bool ok]) ∧ Grown W w') ∧
    ∀ W, Calls Try.prog 46 #[obv k x n a l s] W fun e w' => e = Ending.returned (.tuple #[.int .i64 v, .bool ok]) ∧ Grown W w' := by
  by_cases h3 : k = 3
  · subst h3
    by_cases h : -16383 ≤ n ∧ n ≤ 16383
    · exact ⟨n * 65536, true, fun w => num_by3 x n a l s _ _ (Lib.hid fun W => (ffrom_ok n h W).mono fun e W' ⟨he, hw⟩ => ⟨he, hw ▸ Grown.refl _⟩) w, fun w => rnum_3 x n a l s _ _ (Lib.hid fun W => r3from_ok n h W) w⟩
    · exact ⟨0, false, fun w => num_by3 x n a l s _ _ (Lib.hid fun W => (ffrom_no n h W).mono fun e W' ⟨he, hw⟩ => ⟨he, hw ▸ Grown.refl _⟩) w, fun w => rnum_3 x n a l s _ _ (Lib.hid fun W => r3from_no n h W) w⟩
  by_cases h4 : k = 4
  · subst h4
    by_cases h : Pl.fx n ∧ Pl.fx 0 ∧ Pl.fx (n + 0)
    · refine ⟨n, true, fun w => num_by4 x n a l s _ _ (Lib.hid fun W => (fadd_ok n 0 h.1 h.2.1 h.2.2 W).mono fun e W' ⟨he, hw⟩ => ⟨by rw [he, Int.add_zero], hw⟩) w, fun w => rnum_4 x n a l s ?_ w⟩
      have := h.1
      unfold Pl.fx at this
      omega
    · refine ⟨0, false, fun w => num_by4 x n a l s _ _ (Lib.hid fun W => fadd_no n 0 h W) w, fun w => rnum_4no x n a l s ?_ w⟩
      unfold Pl.fx at h
      omega
  · exact ⟨0, false, fun w => num_else k x n a l s (Pl.nek h3) (Pl.nek h4) w, fun w => rnum_else k (Pl.nek h3) (Pl.nek h4) x n a l s w⟩
end Go.Proofs.Ytenmbkngkabonaa
