/- The walk of hand.Give. · hand.Give of a new row; the walks o -/
import Derived.Deep.Cut
import Derived.Deep.RegionWith
import Derived.Deep.RegionHeld3
import Derived.Deep.DeepCutAuto
import Derived.WideMake
import Derived.Test.YtfmmomdmemcbbaaGreatA2
import Derived.Test.YtfmmomdmemcbbaaGreatM4
import Derived.Test.YtfmmomdmemcbbaaGreatM3
import Derived.Test.YtfmmomdmemcbbaaGreatM1
set_option maxHeartbeats 4000000
set_option maxRecDepth 100000
namespace Go.Proofs.YtfmmomdmemcbbaaGreat
set_option linter.unusedVariables false
open Go.RowKit
def Pl.giveR (L : List Pl.Ob) (n : Nat) (l : List Pl.Ob) : Int × List Pl.Ob := if L.length - n + l.length ≤ 200 then (0, L.take (L.length - n) ++ l) else (8, L)
theorem Pl.popR_take (L : List Pl.Ob) (j : Nat) (hj : j < L.length) : (Pl.popR (L.take (L.length - j))).2.2 = L.take (L.length - (j + 1)) := by
  unfold Pl.popR
  have h1 : (L.take (L.length - j)).getLast? = some (L[L.length - j - 1]'(by omega)) := by
    rw [List.getLast?_eq_getElem?, List.length_take, List.getElem?_take]
    rw [if_pos (by omega), show min (L.length - j) L.length - 1 = L.length - j - 1 by omega, List.getElem?_eq_getElem (by omega)]
  rw [h1]
  simp only
  rw [List.dropLast_eq_take, List.length_take, List.take_take]
  congr 1
  omega
section
variable (W0 : World) (Pr : Nat → Prop) (p : Nat) (L : List Pl.Ob) (W : World) (hlen : L.length ≤ 200) (h : Stk W0 Pr p L W)
include h hlen
theorem give_any (n : Nat) (l : List Pl.Ob) (v : Value) (hR : RowP Pr W v l) (hn : n ≤ L.length) (hl : l.length ≤ 10) (hm : ∀ o ∈ l, Pl.mayO o) :
    Calls Tryz.prog 24 #[.pointer (some ⟨p, 0, none⟩), .int .i64 (n : Int), v] W fun e w' => e = .returned (.int .i64 (Pl.giveR L n l).1) ∧ Stk W0 Pr p (Pl.giveR L n l).2 w' ∧ FrS W0 Pr W w' := by
  have HRM := Lib.hid (room_any W0 Pr p L W (by omega) h (n : Int) (l.length : Int) (by omega) (by omega))
  obtain ⟨⟨ao, cap, rfl, _⟩, _⟩ := id hR
  have HR := Lib.hid hR
  have HS := Lib.hid h
  have HM := Lib.hid hm
  obtain ⟨k, hk⟩ : ∃ k, k = l.length := ⟨_, rfl⟩
  have HKL := Lib.hid hk
  rw [← hk] at HRM hl ⊢
  obtain ⟨M, hM⟩ : ∃ M, M = L.length := ⟨_, rfl⟩
  have HML := Lib.hid hM
  rw [← hM] at HRM hlen hn
  unfold Pl.giveR
  rw [← hk, ← hM]
  clear hk hM hm hR h
  by_cases hroom : M - n + k ≤ 200
  · rw [if_pos hroom]
    rw [decide_eq_true (show (M : Int) - n + k ≤ 200 by omega)] at HRM
    go_enter Tryz.func24, Tryz.ntmps24
    go_wp2_with fail
    refine HRM.out.mono ?_
    rintro e w' ⟨rfl, rfl⟩
    clear HRM
    go_wp2_with fail
    go_loopw [16] (fun i wr => ∃ j : Nat, i = .int .i64 (j : Int) ∧ j ≤ n ∧ Hid (Stk W0 Pr p (L.take (L.length - j)) wr ∧ FrS W0 Pr w' wr)) (fun i _ => ((n : Int) - intOf i).toNat)
    case atStart => exact ⟨0, rfl, by omega, Lib.hid ⟨by rw [Nat.sub_zero, List.take_length]; exact HS.out, Fr.refl _ _⟩⟩
    case round =>
      obtain ⟨j, rfl, hj, HJ⟩ := hrel
      by_cases hjn : j = n
      · subst hjn
        go_wp2_with fail
        go_loopw [23] (fun i wr2 => ∃ q : Nat, i = .int .i64 (q : Int) ∧ q ≤ k ∧ Hid (Stk W0 Pr p (L.take (L.length - j) ++ l.take q) wr2 ∧ FrS W0 Pr w' wr2)) (fun i _ => ((k : Int) - intOf i).toNat)
        case atStart => exact ⟨0, rfl, by omega, Lib.hid ⟨by rw [List.take_zero, List.append_nil]; exact HJ.out.1, HJ.out.2⟩⟩
        case round =>
          obtain ⟨q, rfl, hq, HQ⟩ := hrel
          by_cases hqk : q = k
          · have HE := Lib.hid (by have := HQ.out.1; rw [hqk, HKL.out, List.take_length, ← HML.out] at this; exact this : Stk W0 Pr p (L.take (M - j) ++ l) wr)
            subst hqk
            go_wp2_with fail
            go_ret
            exact ⟨rfl, HE.out, HQ.out.2⟩
          · have hqI : (q : Int) < (k : Int) := by omega
            have HQK := Lib.hid (show q < k by omega)
            obtain ⟨o, ho⟩ : ∃ o, l[q]? = some o := ⟨_, List.getElem?_eq_getElem (by have := HKL.out; omega)⟩
            obtain ⟨ga, oa, ca, hva, hga, a0, a1, a2, a3, a4, a5⟩ := (HR.out.fr HQ.out.2).1.at q _ ho
            injection hva with q1 q2 q3
            subst q1
            subst q3
            clear q2
            have hmo := HM.out o (List.mem_of_getElem? ho)
            have HP := Lib.hid (fun W' (hS : Stk W0 Pr p (L.take (L.length - j) ++ l.take q) W') => push_all W0 Pr p (L.take (L.length - j) ++ l.take q) W' (by rw [List.length_append, List.length_take, List.length_take]; have := HML.out; omega) hS o)
            have he : Pl.pushR (L.take (L.length - j) ++ l.take q) o = (0, L.take (L.length - j) ++ l.take (q + 1)) := by
              unfold Pl.pushR
              rw [if_pos hmo, if_pos (by rw [List.length_append, List.length_take, List.length_take]; have := HML.out; omega), List.take_add_one, ho, List.append_assoc]
              rfl
            rw [he] at HP
            clear he hmo ho
            obtain ⟨ok, ox, on, oaa, ol, os⟩ := o
            simp only at a0 a1 a2 a3 a4 a5
            go_wp2_with fail
            refine (HP.out _ (HQ.out.1.grown ((Grown.refl _).alloc _ _))).mono ?_
            rintro e w3 ⟨rfl, hs3, f3⟩
            have H3 := Lib.hid (And.intro hs3 ((HQ.out.2.trans (Fr.of_grown _ ((Grown.refl _).alloc _ _))).trans f3))
            clear hs3 f3 HP
            go_wp2_with fail
            exact ⟨⟨q + 1, by simp, by have := HQK.out; omega, H3⟩, by simp [intOf] <;> omega⟩
      · have hjI : (j : Int) < (n : Int) := by omega
        have HJN := Lib.hid (show j < n by omega)
        have HP := Lib.hid (pop_all W0 Pr p (L.take (L.length - j)) wr (by rw [List.length_take]; have := HML.out; omega) HJ.out.1)
        rw [Pl.popR_take L j (by have := HML.out; omega)] at HP
        go_wp2_with fail
        refine HP.out.mono ?_
        rintro e w2 ⟨rfl, hs2, f2⟩
        have H2 := Lib.hid (And.intro hs2 (HJ.out.2.trans f2))
        clear hs2 f2 HP
        go_wp2_with fail
        exact ⟨⟨j + 1, by simp, by have := HJN.out; omega, H2⟩, by simp [intOf] <;> omega⟩
  · rw [if_neg hroom]
    rw [decide_eq_false (show ¬ (M : Int) - n + k ≤ 200 by omega)] at HRM
    go_enter Tryz.func24, Tryz.ntmps24
    go_wp2_with fail
    refine HRM.out.mono ?_
    rintro e w' ⟨rfl, rfl⟩
    go_wp2_with fail
    go_ret
    exact ⟨rfl, HS.out, Fr.refl _ _⟩
end
end Go.Proofs.YtfmmomdmemcbbaaGreat
namespace Go.Proofs.YtfmmomdmemcbbaaGreat
set_option linter.unusedVariables false
open Go.RowKit
def Pl.intO (n : Int) : Pl.Ob := (3, false, n, 0, 0, ⟨#[]⟩)
def Pl.fixO (n : Int) : Pl.Ob := (4, false, n, 0, 0, ⟨#[]⟩)
def Pl.inInt (v : Int) : Prop := -2147483647 ≤ v ∧ v ≤ 2147483647
instance (v : Int) : Decidable (Pl.inInt v) := by unfold Pl.inInt; infer_instance
def Pl.inFix (v : Int) : Prop := -1073741823 ≤ v ∧ v ≤ 1073741823
instance (v : Int) : Decidable (Pl.inFix v) := by unfold Pl.inFix; infer_instance
theorem Pl.may_intO {v : Int} (h : Pl.inInt v) : Pl.mayO (Pl.intO v) := by
  unfold Pl.mayO Pl.may Pl.intO Pl.bare
  unfold Pl.inInt at h
  simp only
  exact .inr (.inr (.inr ⟨by simp, .inr (.inl ⟨by first | rfl | trivial, h.1, h.2⟩)⟩))
theorem Pl.may_fix {v : Int} (h : Pl.inFix v) : Pl.mayO (Pl.fixO v) := by
  unfold Pl.mayO Pl.may Pl.fixO Pl.bare
  unfold Pl.inFix at h
  simp only
  exact .inr (.inr (.inr ⟨by simp, .inr (.inr (.inl ⟨by first | rfl | trivial, h.1, h.2⟩))⟩))
def Pl.wholeR (L : List Pl.Ob) (n : Nat) (v : Int) : Int × List Pl.Ob := if Pl.inInt v then Pl.giveR L n [Pl.intO v] else (2, L)
def Pl.fixedR (L : List Pl.Ob) (n : Nat) (v : Int) (ok : Bool) : Int × List Pl.Ob := if ok = true ∧ Pl.inFix v then Pl.giveR L n [Pl.fixO v] else (2, L)
theorem row_new (W : World) (l : List Pl.Ob) (A : Array Value) (hA : A.toList = Pl.flat l) (k : Nat) (hk : k = l.length) : RowV (W.alloc (.cells A 25)) (.slice (some ⟨W.heap.size, 0, none⟩) k k) l := by
  refine ⟨_, k, by rw [hk], .inr ⟨W.heap.size, 0, rfl, by simp, fun j u hu => ?_⟩⟩
  have := alloc_cell W A 25 j u (by rw [hA]; exact hu)
  rw [show (⟨W.heap.size, 0, none⟩ : Addr).add j = ⟨W.heap.size, 0 + j, none⟩ from by simp [Addr.add]; intro h; exact h.symm] at this
  exact this
section
variable (W0 : World) (Pr : Nat → Prop) (p : Nat) (L : List Pl.Ob) (W : World) (hlen : L.length ≤ 200) (h : Stk W0 Pr p L W)
include h hlen
theorem give_row (n : Nat) (l : List Pl.Ob) (A : Array Value) (hA : A.toList = Pl.flat l) (k : Nat) (hk : k = l.length) (hn : n ≤ L.length) (hl : l.length ≤ 10) (hm : ∀ o ∈ l, Pl.mayO o) (b : Nat) (hb : b = W.heap.size) :
    Calls Tryz.prog 24 #[.pointer (some ⟨p, 0, none⟩), .int .i64 (n : Int), .slice (some ⟨b, 0, none⟩) k k] (W.alloc (.cells A 25)) fun e w' => e = .returned (.int .i64 (Pl.giveR L n l).1) ∧ Stk W0 Pr p (Pl.giveR L n l).2 w' ∧ FrS W0 Pr W w' := by
  subst hb
  have h1 := h.box (.cells A 25)
  refine (give_any W0 _ p L _ hlen h1 n l _ ⟨row_new W l A hA k hk, fun ao m c hv a ha _ => ?_⟩ hn hl hm).mono ?_
  · injection hv with q1 _ _
    rw [ha] at q1
    injection q1 with q1
    right
    rw [← q1]
  · rintro e w' ⟨rfl, hs, hf⟩
    refine ⟨rfl, hs.protect (Fr.refl _ _) (fun c q _ => .inl q) (fun c q => ?_), (Fr.alloc _ W _).trans (hf.weaken (fun c q => ⟨fun r => q.1 (.inl r), q.2⟩))⟩
    obtain ⟨_, _, _, _, _, _, h5⟩ := hs
    exact h5 c (.inl q)
theorem give_none (n : Nat) (hn : n ≤ L.length) :
    Calls Tryz.prog 24 #[.pointer (some ⟨p, 0, none⟩), .int .i64 (n : Int), .slice none 0 0] W fun e w' => e = .returned (.int .i64 0) ∧ Stk W0 Pr p (L.take (L.length - n)) w' ∧ FrS W0 Pr W w' := by
  refine (give_any W0 Pr p L W hlen h n [] (.slice none 0 0) ⟨⟨none, 0, rfl, .inl rfl⟩, fun ao m c hv a ha hL => absurd rfl hL⟩ hn (by simp) (fun o ho => by simp at ho)).mono ?_
  rw [show Pl.giveR L n [] = (0, L.take (L.length - n)) by unfold Pl.giveR; rw [if_pos (by simp; omega), List.append_nil]]
  rintro e w' hh
  exact hh
theorem whole_any (n : Nat) (hn : n ≤ L.length) (v : Int) :
    Calls Tryz.prog 42 #[.pointer (some ⟨p, 0, none⟩), .int .i64 (n : Int), .int .i64 v] W fun e w' => e = .returned (.int .i64 (Pl.wholeR L n v).1) ∧ Stk W0 Pr p (Pl.wholeR L n v).2 w' ∧ FrS W0 Pr W w' := by
  have HW := Lib.hid (whole_obj v W)
  unfold Pl.wholeR
  by_cases hv : Pl.inInt v
  · rw [if_pos hv]
    rw [decide_eq_true (show -2147483647 ≤ v ∧ v ≤ 2147483647 from hv)] at HW
    have HG := Lib.hid (fun W' (hS : Stk W0 Pr p L W') b (hb : b = W'.heap.size) => give_row W0 Pr p L W' hlen hS n [Pl.intO v] #[.int .i64 3, .bool false, .int .i64 v, .int .i64 0, .int .i64 0, .string ⟨#[]⟩] rfl 1 rfl hn (by simp) (fun o ho => by rw [List.mem_singleton.1 ho]; exact Pl.may_intO hv) b hb)
    have HS := Lib.hid h
    clear h hlen hn hv
    go_enter Tryz.func42, Tryz.ntmps42
    go_wp2_with fail
    refine HW.out.mono ?_
    rintro e w1 ⟨rfl, g1⟩
    have H1 := Lib.hid (And.intro ((HS.out.grown g1).grown ((Grown.refl _).alloc #[.int .i64 3, .bool false, .int .i64 v, .int .i64 0, .int .i64 0, .string ⟨#[]⟩] 25)) (grown_trans g1 ((Grown.refl _).alloc #[.int .i64 3, .bool false, .int .i64 v, .int .i64 0, .int .i64 0, .string ⟨#[]⟩] 25)))
    clear g1
    go_wp2_with fail
    with_reducible refine (HG.out _ H1.out.1 _ (by simp)).mono ?_
    rintro e w2 ⟨rfl, hs, hf⟩
    have H2 := Lib.hid (And.intro hs ((Fr.of_grown _ H1.out.2).trans hf))
    clear hs hf HG H1
    go_wp2_with fail
    go_ret
    exact ⟨rfl, H2.out⟩
  · rw [if_neg hv]
    rw [decide_eq_false (show ¬ (-2147483647 ≤ v ∧ v ≤ 2147483647) from hv)] at HW
    have HS := Lib.hid h
    clear h hlen hn hv
    go_enter Tryz.func42, Tryz.ntmps42
    go_wp2_with fail
    refine HW.out.mono ?_
    rintro e w1 ⟨rfl, g1⟩
    have H1 := Lib.hid (And.intro ((HS.out.grown g1).grown ((Grown.refl _).alloc #[.int .i64 3, .bool false, .int .i64 v, .int .i64 0, .int .i64 0, .string ⟨#[]⟩] 25)) (grown_trans g1 ((Grown.refl _).alloc #[.int .i64 3, .bool false, .int .i64 v, .int .i64 0, .int .i64 0, .string ⟨#[]⟩] 25)))
    clear g1
    go_wp2_with fail
    go_ret
    exact ⟨rfl, H1.out.1, Fr.of_grown _ H1.out.2⟩
theorem fixed_any (n : Nat) (hn : n ≤ L.length) (v : Int) (ok : Bool) :
    Calls Tryz.prog 50 #[.pointer (some ⟨p, 0, none⟩), .int .i64 (n : Int), .int .i64 v, .bool ok] W fun e w' => e = .returned (.int .i64 (Pl.fixedR L n v ok).1) ∧ Stk W0 Pr p (Pl.fixedR L n v ok).2 w' ∧ FrS W0 Pr W w' := by
  have HW := Lib.hid (fixed_obj v W)
  unfold Pl.fixedR
  by_cases hv : ok = true ∧ Pl.inFix v
  · rw [if_pos hv]
    obtain ⟨rfl, hv⟩ := hv
    rw [decide_eq_true (show -1073741823 ≤ v ∧ v ≤ 1073741823 from hv)] at HW
    have HG := Lib.hid (fun W' (hS : Stk W0 Pr p L W') b (hb : b = W'.heap.size) => give_row W0 Pr p L W' hlen hS n [Pl.fixO v] #[.int .i64 4, .bool false, .int .i64 v, .int .i64 0, .int .i64 0, .string ⟨#[]⟩] rfl 1 rfl hn (by simp) (fun o ho => by rw [List.mem_singleton.1 ho]; exact Pl.may_fix hv) b hb)
    have HS := Lib.hid h
    clear h hlen hn hv
    go_enter Tryz.func50, Tryz.ntmps50
    go_wp2_with fail
    refine HW.out.mono ?_
    rintro e w1 ⟨rfl, g1⟩
    have H1 := Lib.hid (And.intro ((HS.out.grown g1).grown ((Grown.refl _).alloc #[.int .i64 4, .bool false, .int .i64 v, .int .i64 0, .int .i64 0, .string ⟨#[]⟩] 25)) (grown_trans g1 ((Grown.refl _).alloc #[.int .i64 4, .bool false, .int .i64 v, .int .i64 0, .int .i64 0, .string ⟨#[]⟩] 25)))
    clear g1
    go_wp2_with fail
    with_reducible refine (HG.out _ H1.out.1 _ (by simp)).mono ?_
    rintro e w2 ⟨rfl, hs, hf⟩
    have H2 := Lib.hid (And.intro hs ((Fr.of_grown _ H1.out.2).trans hf))
    clear hs hf HG H1
    go_wp2_with fail
    go_ret
    exact ⟨rfl, H2.out⟩
  · rw [if_neg hv]
    have HS := Lib.hid h
    clear h hlen hn
    rcases ok with _ | _
    · clear hv
      go_enter Tryz.func50, Tryz.ntmps50
      go_wp2_with fail
      refine HW.out.mono ?_
      rintro e w1 ⟨rfl, g1⟩
      have H1 := Lib.hid (And.intro ((HS.out.grown g1).grown ((Grown.refl _).alloc #[.int .i64 4, .bool false, .int .i64 v, .int .i64 0, .int .i64 0, .string ⟨#[]⟩] 25)) (grown_trans g1 ((Grown.refl _).alloc #[.int .i64 4, .bool false, .int .i64 v, .int .i64 0, .int .i64 0, .string ⟨#[]⟩] 25)))
      clear g1
      go_wp2_with fail
      go_ret
      exact ⟨rfl, H1.out.1, Fr.of_grown _ H1.out.2⟩
    · rw [decide_eq_false (show ¬ (-1073741823 ≤ v ∧ v ≤ 1073741823) from fun q => hv ⟨rfl, q⟩)] at HW
      clear hv
      go_enter Tryz.func50, Tryz.ntmps50
      go_wp2_with fail
      refine HW.out.mono ?_
      rintro e w1 ⟨rfl, g1⟩
      have H1 := Lib.hid (And.intro ((HS.out.grown g1).grown ((Grown.refl _).alloc #[.int .i64 4, .bool false, .int .i64 v, .int .i64 0, .int .i64 0, .string ⟨#[]⟩] 25)) (grown_trans g1 ((Grown.refl _).alloc #[.int .i64 4, .bool false, .int .i64 v, .int .i64 0, .int .i64 0, .string ⟨#[]⟩] 25)))
      clear g1
      go_wp2_with fail
      go_ret
      exact ⟨rfl, H1.out.1, Fr.of_grown _ H1.out.2⟩
end
end Go.Proofs.YtfmmomdmemcbbaaGreat
namespace Go.Proofs.YtfmmomdmemcbbaaGreat
set_option linter.unusedVariables false
open Go.RowKit
end Go.Proofs.YtfmmomdmemcbbaaGreat
namespace Go.Proofs.YtfmmomdmemcbbaaGreat
set_option linter.unusedVariables false
open Go.RowKit
theorem num_by3 (x : Bool) (n a l : Int) (s : ByteArray) (v : Int) (ok : Bool) (C : Hid (∀ W, Calls Tryz.prog 78 #[.int .i64 n] W fun e w' => e = Ending.returned (.tuple #[.int .i64 v, .bool ok]) ∧ Grown W w')) (w : World) :
    Calls Tryz.prog 51 #[obv 3 x n a l s] w fun e w' => e = Ending.returned (.tuple #[.int .i64 v, .bool ok]) ∧ Grown w w' := by
  go_enter Tryz.func51, Tryz.ntmps51
  go_wp2_with fail
  refine (C.out _).mono ?_
  rintro e w1 ⟨rfl, g1⟩
  go_wp2
  go_ret2
  exact ⟨rfl, grown_trans (by (repeat (first | exact Grown.refl _ | assumption | apply Grown.drew | apply Grown.alloc))) g1⟩
end Go.Proofs.YtfmmomdmemcbbaaGreat
namespace Go.Proofs.YtfmmomdmemcbbaaGreat.Pl
set_option linter.unusedVariables false
theorem sgn_cases (v : Int) : ∃ s : Int, (s = 1 ∧ decide (v < 0) = false ∨ s = -1 ∧ decide (v < 0) = true) ∧ v = s * mag v ∧ mag v = s * v := by
  by_cases h : v < 0
  · exact ⟨-1, .inr ⟨rfl, decide_eq_true h⟩, by rw [mag_neg h]; omega, by rw [mag_neg h]; omega⟩
  · exact ⟨1, .inl ⟨rfl, decide_eq_false h⟩, by rw [mag_pos (by omega)]; omega, by rw [mag_pos (by omega)]; omega⟩
theorem left_over (a b d n : Int) : ∃ s t : Int, (s = 1 ∨ s = -1) ∧ (t = 1 ∨ t = -1) ∧ a * b = s * (mag a * mag b) ∧ d = t * mag d ∧ (if sgn3 a b d = true then s = -t else s = t) ∧
    a * b - (if sgn3 a b d = true then -n else n) * d = s * (mag a * mag b - n * mag d) := by
  obtain ⟨s1, h1, e1, _⟩ := sgn_cases a
  obtain ⟨s2, h2, e2, _⟩ := sgn_cases b
  obtain ⟨s3, h3, e3, _⟩ := sgn_cases d
  have es : sgn3 a b d = ((decide (a < 0) != decide (b < 0)) != decide (d < 0)) := rfl
  refine ⟨s1 * s2, s3, ?_, ?_, ?_, e3, ?_, ?_⟩
  · rcases h1 with ⟨rfl, _⟩ | ⟨rfl, _⟩ <;> rcases h2 with ⟨rfl, _⟩ | ⟨rfl, _⟩ <;> simp
  · rcases h3 with ⟨rfl, _⟩ | ⟨rfl, _⟩ <;> simp
  · conv => lhs; rw [e1, e2]
    rw [Int.mul_assoc, Int.mul_assoc, ← Int.mul_assoc (mag a), Int.mul_comm (mag a) s2, Int.mul_assoc s2]
  · rcases h1 with ⟨rfl, g1⟩ | ⟨rfl, g1⟩ <;> rcases h2 with ⟨rfl, g2⟩ | ⟨rfl, g2⟩ <;> rcases h3 with ⟨rfl, g3⟩ | ⟨rfl, g3⟩ <;> rw [es, g1, g2, g3] <;> decide
  · have e4 : a * b = s1 * s2 * (mag a * mag b) := by
      conv => lhs; rw [e1, e2]
      rw [Int.mul_assoc, Int.mul_assoc, ← Int.mul_assoc (mag a), Int.mul_comm (mag a) s2, Int.mul_assoc s2]
    rw [e4]
    conv => lhs; rhs; rhs; rw [e3]
    rcases h1 with ⟨rfl, g1⟩ | ⟨rfl, g1⟩ <;> rcases h2 with ⟨rfl, g2⟩ | ⟨rfl, g2⟩ <;> rcases h3 with ⟨rfl, g3⟩ | ⟨rfl, g3⟩ <;> rw [es, g1, g2, g3] <;> simp [Int.neg_mul, Int.mul_neg] <;> omega
theorem near_spec (N D : Int) (hN : 0 ≤ N) (hD : 0 < D) : -D ≤ 2 * (N - near N D * D) ∧ 2 * (N - near N D * D) ≤ D ∧ ((2 * (N - near N D * D) = D ∨ 2 * (N - near N D * D) = -D) → near N D % 2 = 0) := by
  have h1 := Int.mul_ediv_add_emod N D
  have h2 := Int.emod_nonneg N (show D ≠ 0 by omega)
  have h3 := Int.emod_lt_of_pos N hD
  have e : near N D = if D - N % D < N % D ∨ (N % D = D - N % D ∧ N / D % 2 = 1) then N / D + 1 else N / D := rfl
  rw [e]
  generalize N / D = q at *
  generalize N % D = r at *
  have hm : (q + 1) * D = D * q + D := by rw [Int.add_mul, Int.mul_comm]; omega
  have hm' : q * D = D * q := Int.mul_comm _ _
  split
  · rw [hm]; generalize D * q = z at *; omega
  · rw [hm']; generalize D * q = z at *; omega
theorem share_near (a b d : Int) (h0 : d ≠ 0) : -mag d ≤ 2 * (a * b - share a b d * d) ∧ 2 * (a * b - share a b d * d) ≤ mag d ∧
    ((2 * (a * b - share a b d * d) = mag d ∨ 2 * (a * b - share a b d * d) = -mag d) → share a b d % 2 = 0) := by
  obtain ⟨s, t, hs, _, _, _, _, e⟩ := left_over a b d (near (mag a * mag b) (mag d))
  have hn := near_spec (mag a * mag b) (mag d) (Int.mul_nonneg (mag_nn a) (mag_nn b)) (mag_lt d h0)
  have ed : share a b d = if sgn3 a b d = true then -near (mag a * mag b) (mag d) else near (mag a * mag b) (mag d) := rfl
  rw [← ed] at e
  have ep : share a b d % 2 = 0 ↔ near (mag a * mag b) (mag d) % 2 = 0 := by rw [ed]; split <;> omega
  rw [e]
  rcases hs with rfl | rfl
  · rw [Int.one_mul]; refine ⟨hn.1, hn.2.1, fun h => ep.2 (hn.2.2 h)⟩
  · rw [Int.neg_mul, Int.one_mul]; refine ⟨by omega, by omega, fun h => ep.2 (hn.2.2 (by omega))⟩
theorem near_le (N D : Int) (hN : 0 ≤ N) (hD : 0 < D) : 0 ≤ near N D ∧ near N D ≤ N := by
  have h0 : 0 ≤ N / D := Int.ediv_nonneg hN (by omega)
  have h1 := Int.mul_ediv_add_emod N D
  have h2 := Int.emod_nonneg N (show D ≠ 0 by omega)
  have h3 := Int.emod_lt_of_pos N hD
  have e : near N D = if D - N % D < N % D ∨ (N % D = D - N % D ∧ N / D % 2 = 1) then N / D + 1 else N / D := rfl
  rw [e]
  generalize N / D = q at *
  generalize N % D = r at *
  have hm : q ≤ D * q := by
    have := Int.mul_le_mul_of_nonneg_right (show (1 : Int) ≤ D by omega) h0
    omega
  split <;> omega
theorem mul_mag (a b : Int) : -(mag a * mag b) ≤ a * b ∧ a * b ≤ mag a * mag b := by
  obtain ⟨s, t, hs, _, e, _⟩ := left_over a b 1 0
  have h0 : 0 ≤ mag a * mag b := Int.mul_nonneg (mag_nn a) (mag_nn b)
  rw [e]
  rcases hs with rfl | rfl
  · rw [Int.one_mul]; omega
  · rw [Int.neg_mul, Int.one_mul]; omega
theorem share_self (a d : Int) (h0 : d ≠ 0) : share a d d = a := by
  have hD := mag_lt d h0
  have e : sgn3 a d d = decide (a < 0) := by unfold sgn3; cases decide (a < 0) <;> cases decide (d < 0) <;> rfl
  have en : near (mag a * mag d) (mag d) = mag a := by
    unfold near
    rw [Int.mul_emod_left, Int.mul_ediv_cancel _ (by omega), if_neg (by omega)]
  unfold share
  rw [en, e]
  unfold mag
  by_cases h : a < 0 <;> simp [h]
end Go.Proofs.YtfmmomdmemcbbaaGreat.Pl
namespace Go.Proofs.YtfmmomdmemcbbaaGreat.Pl
set_option linter.unusedVariables false
def tabL : List Int :=
  [0, 1144, 2287, 3430, 4572, 5712, 6850, 7987, 9121, 10252, 11380, 12505, 13626, 14742, 15855, 16962, 18064, 19161, 20252, 21336, 22415, 23486, 24550,
    25607, 26656, 27697, 28729, 29753, 30767, 31772, 32768, 33754, 34729, 35693, 36647, 37590, 38521, 39441, 40348, 41243, 42126, 42995, 43852, 44695,
    45525, 46341, 47143, 47930, 48703, 49461, 50203, 50931, 51643, 52339, 53020, 53684, 54332, 54963, 55578, 56175, 56756, 57319, 57865, 58393, 58903,
    59396, 59870, 60326, 60764, 61183, 61584, 61966, 62328, 62672, 62997, 63303, 63589, 63856, 64104, 64332, 64540, 64729, 64898, 65048, 65177, 65287,
    65376, 65446, 65496, 65526, 65536]
def tb (k : Nat) : Int := tabL.getD k 0
theorem tb_step : ∀ k : Nat, k < 90 → 0 ≤ tb (k + 1) - tb k ∧ tb (k + 1) - tb k ≤ 1144 := by decide +kernel
theorem tb_bd : ∀ k : Nat, k < 91 → 0 ≤ tb k ∧ tb k ≤ 65536 := by decide +kernel
def sine (d : Int) : Int := if d % 65536 = 0 then tb (d / 65536).toNat else tb (d / 65536).toNat + share (tb ((d / 65536).toNat + 1) - tb (d / 65536).toNat) (d % 65536) 65536
def sin0 (d : Int) : Int := sine (if 5898240 < d then 11796480 - d else d)
def sin (d : Int) : Int := if 11796480 < d % 23592960 then -sin0 (d % 23592960 - 11796480) else sin0 (d % 23592960)
def cos (d : Int) : Int := sin (d % 23592960 + 5898240)
theorem sine_zero : sine 0 = 0 := by decide +kernel
theorem part_bd (s r : Int) (hs : 0 ≤ s) (hr : 0 ≤ r ∧ r ≤ 65536) : 0 ≤ share s r 65536 ∧ share s r 65536 ≤ s := by
  have h := share_near s r 65536 (by decide)
  have h3 : mag 65536 = 65536 := by decide
  rw [h3] at h
  have h1 : 0 ≤ s * r := Int.mul_nonneg hs hr.1
  have h2 : s * r ≤ s * 65536 := Int.mul_le_mul_of_nonneg_left hr.2 hs
  have h4 : 0 ≤ share s r 65536 := by
    have e : sgn3 s r 65536 = false := by
      unfold sgn3
      rw [decide_eq_false (by omega : ¬ s < 0), decide_eq_false (by omega : ¬ r < 0)]; rfl
    have := near_le (mag s * mag r) (mag 65536) (Int.mul_nonneg (mag_nn s) (mag_nn r)) (by decide)
    unfold share
    rw [e, if_neg (by decide)]
    exact this.1
  exact ⟨h4, by omega⟩
theorem part_mono (s r r' : Int) (hs : 0 ≤ s) (hr : 0 ≤ r) (h : r ≤ r') : share s r 65536 ≤ share s r' 65536 := by
  have h1 := share_near s r 65536 (by decide)
  have h2 := share_near s r' 65536 (by decide)
  have h3 : mag 65536 = 65536 := by decide
  rw [h3] at h1 h2
  have h4 : s * r ≤ s * r' := Int.mul_le_mul_of_nonneg_left h hs
  by_cases e : s * r = s * r'
  · have : share s r 65536 = share s r' 65536 := by
      unfold share
      have e1 : sgn3 s r 65536 = false := by unfold sgn3; rw [decide_eq_false (by omega : ¬ s < 0), decide_eq_false (by omega : ¬ r < 0)]; rfl
      have e2 : sgn3 s r' 65536 = false := by unfold sgn3; rw [decide_eq_false (by omega : ¬ s < 0), decide_eq_false (by omega : ¬ r' < 0)]; rfl
      rw [e1, e2, mag_pos hs, mag_pos hr, mag_pos (by omega : 0 ≤ r'), e]
    omega
  · generalize s * r = x at *
    generalize s * r' = y at *
    generalize share s r 65536 = u at *
    generalize share s r' 65536 = v at *
    omega
theorem sine_within (d : Int) (h0 : 0 ≤ d) (h1 : d < 5898240) : tb (d / 65536).toNat ≤ sine d ∧ sine d ≤ tb ((d / 65536).toNat + 1) := by
  have hk : (d / 65536).toNat < 90 := by omega
  have hs := tb_step _ hk
  unfold sine
  split
  · omega
  · have := part_bd (tb ((d / 65536).toNat + 1) - tb (d / 65536).toNat) (d % 65536) hs.1 (by omega)
    omega
theorem tb_mono (j k : Nat) (h : j ≤ k) (hk : k ≤ 90) : tb j ≤ tb k := by
  induction k with
  | zero => have : j = 0 := by omega
            subst this; exact Int.le_refl _
  | succ k ih =>
    by_cases e : j = k + 1
    · subst e; exact Int.le_refl _
    · have := ih (by omega) (by omega)
      have := tb_step k (by omega)
      omega
theorem sine_mono (x y : Int) (h0 : 0 ≤ x) (h : x ≤ y) (h1 : y ≤ 5898240) : sine x ≤ sine y := by
  by_cases e : x = y
  · subst e; exact Int.le_refl _
  · have hx := sine_within x h0 (by omega)
    by_cases ek : x / 65536 = y / 65536
    · have hs := tb_step (x / 65536).toNat (by omega)
      unfold sine
      rw [← ek]
      by_cases r0 : x % 65536 = 0
      · rw [if_pos r0, if_neg (by omega)]
        have := part_bd (tb ((x / 65536).toNat + 1) - tb (x / 65536).toNat) (y % 65536) hs.1 (by omega)
        omega
      · rw [if_neg r0, if_neg (by omega)]
        have := part_mono (tb ((x / 65536).toNat + 1) - tb (x / 65536).toNat) (x % 65536) (y % 65536) hs.1 (by omega) (by omega)
        omega
    · have hm := tb_mono ((x / 65536).toNat + 1) (y / 65536).toNat (by omega) (by omega)
      have hy : tb (y / 65536).toNat ≤ sine y := by
        by_cases ye : y = 5898240
        · subst ye; decide +kernel
        · exact (sine_within y (by omega) (by omega)).1
      omega
theorem sine_bd (d : Int) (h0 : 0 ≤ d) (h1 : d ≤ 5898240) : 0 ≤ sine d ∧ sine d ≤ 65536 := by
  have a := sine_mono 0 d (by omega) h0 h1
  have b := sine_mono d 5898240 h0 h1 (by omega)
  rw [sine_zero] at a
  have c : sine 5898240 = 65536 := by decide +kernel
  rw [c] at b
  exact ⟨a, b⟩
theorem sin0_bd (d : Int) (h0 : 0 ≤ d) (h1 : d ≤ 11796480) : 0 ≤ sin0 d ∧ sin0 d ≤ 65536 := by
  unfold sin0
  split <;> exact sine_bd _ (by omega) (by omega)
theorem sin_bd (d : Int) : -65536 ≤ sin d ∧ sin d ≤ 65536 := by
  unfold sin
  split
  · have := sin0_bd (d % 23592960 - 11796480) (by omega) (by omega); omega
  · have := sin0_bd (d % 23592960) (by omega) (by omega); omega
theorem cos_bd (d : Int) : -65536 ≤ cos d ∧ cos d ≤ 65536 := sin_bd _
theorem mul_bd46 (c y : Int) (hc : -65536 ≤ c ∧ c ≤ 65536) (hy : -1073741823 ≤ y ∧ y ≤ 1073741823) : -70368744177664 ≤ c * y ∧ c * y ≤ 70368744177664 := by
  have h := mul_mag c y
  have h1 : mag c ≤ 65536 := by unfold mag; split <;> omega
  have h2 : mag y ≤ 1073741823 := by unfold mag; split <;> omega
  have h3 : mag c * mag y ≤ 65536 * mag y := Int.mul_le_mul_of_nonneg_right h1 (mag_nn y)
  omega
def ahead (y x d : Int) : Int := cos d * y - sin d * x
def begin (y x : Int) : Int := if 0 < x ∧ 0 ≤ y then 0 else if x ≤ 0 ∧ 0 < y then 5898240 else if x < 0 then 11796480 else 17694720
def stopFrom (g : Nat → Int) : Nat → Nat → Nat
  | 0, j => j
  | f + 1, j => if 0 < g j ∧ j < 90 then stopFrom g f (j + 1) else j
def gAt (y x : Int) (j : Nat) : Int := ahead y x (begin y x + (j : Int) * 65536)
def dirJ (y x : Int) : Nat := stopFrom (gAt y x) 90 1
def dirEnd (y x : Int) (J : Nat) : Int :=
  if gAt y x J < 0 then (begin y x + (J : Int) * 65536 + share (gAt y x (J - 1)) 65536 (gAt y x (J - 1) - gAt y x J) - 65536) % 23592960
  else (begin y x + (J : Int) * 65536) % 23592960
def dir (y x : Int) : Int := if gAt y x 0 ≤ 0 then begin y x else dirEnd y x (dirJ y x)
theorem begin_cases (y x : Int) : begin y x = 0 ∨ begin y x = 5898240 ∨ begin y x = 11796480 ∨ begin y x = 17694720 := by
  unfold begin; (repeat' split) <;> omega
theorem begin_bd (y x : Int) : 0 ≤ begin y x ∧ begin y x ≤ 17694720 := by have := begin_cases y x; omega
theorem gAt_bd (y x : Int) (j : Nat) (hy : -1073741823 ≤ y ∧ y ≤ 1073741823) (hx : -1073741823 ≤ x ∧ x ≤ 1073741823) : -140737488355328 ≤ gAt y x j ∧ gAt y x j ≤ 140737488355328 := by
  have h1 := mul_bd46 _ _ (cos_bd (begin y x + (j : Int) * 65536)) hy
  have h2 := mul_bd46 _ _ (sin_bd (begin y x + (j : Int) * 65536)) hx
  unfold gAt ahead
  omega
theorem share_part (a d : Int) (ha : 0 < a) (hd : a ≤ d) : 0 ≤ share a 65536 d ∧ share a 65536 d ≤ 65536 := by
  have h := share_near a 65536 d (by omega)
  rw [mag_pos (by omega : 0 ≤ d)] at h
  have e : sgn3 a 65536 d = false := by
    unfold sgn3
    rw [decide_eq_false (by omega : ¬ a < 0), decide_eq_false (by omega : ¬ d < 0)]; rfl
  have h4 : 0 ≤ share a 65536 d := by
    have := near_le (mag a * mag 65536) (mag d) (Int.mul_nonneg (mag_nn _) (mag_nn _)) (mag_lt d (by omega))
    unfold share
    rw [e, if_neg (by decide)]
    exact this.1
  refine ⟨h4, ?_⟩
  apply Int.not_lt.1
  intro hgt
  have h5 : 65537 * d ≤ share a 65536 d * d := Int.mul_le_mul_of_nonneg_right (by omega) (by omega)
  omega
end Go.Proofs.YtfmmomdmemcbbaaGreat.Pl
namespace Go.Proofs.YtfmmomdmemcbbaaGreat
set_option linter.unusedVariables false
open Go.RowKit
theorem brought_any (v : Int) (w : World) :
    Calls Tryz.prog 81 #[.int .i64 v] w fun e w' => e = .returned (.int .i64 (v % 23592960)) ∧ w = w' := by
  have hb := Pl.tmod_bd v 23592960 (by omega)
  have he := Lib.hid (Pl.place_eq v 23592960 (by omega))
  by_cases h : v.tmod 23592960 < 0
  · go_enter Tryz.func81, Tryz.ntmps81
    go_wp2
    go_ret
    exact ⟨ret_int (by rw [← he.out, if_pos (by assumption)]), rfl⟩
  · go_enter Tryz.func81, Tryz.ntmps81
    go_wp2
    go_ret
    exact ⟨ret_int (by rw [← he.out, if_neg (by omega)]), rfl⟩
def tabA : Array Value := (Pl.tabL.map (Value.int .i64)).toArray
def tabZ : Array Value := Array.replicate 91 (.int .i64 0)
theorem tab_get (k : Nat) (h : k < 91) : tabA[k]? = some (.int .i64 (Pl.tb k)) := by
  unfold tabA Pl.tb
  have hl : Pl.tabL.length = 91 := by decide +kernel
  simp [List.getElem?_eq_getElem (show k < Pl.tabL.length by omega)]
theorem tab_cell (w : World) (k : Nat) (h : k < 91) : (w.alloc (.cells tabA 98)).cell? ⟨w.heap.size, k, none⟩ = some (.int .i64 (Pl.tb k)) := by
  rw [cell_of_row _ _ _ _ _ _ (heap_alloc_new w _)]
  exact tab_get k h
theorem sine_whole (d : Int) (h : 0 ≤ d ∧ d ≤ 5898240) (hr : d % 65536 = 0) (w : World) :
    Calls Tryz.prog 82 #[.int .i64 d] w fun e w' => e = .returned (.int .i64 (Pl.sine d)) ∧ Grown w w' := by
  have h0 : (d % 65536 == 0) = true := beq_iff_eq.2 hr
  have hs := Lib.hid (show Pl.sine d = Pl.tb (d / 65536).toNat by unfold Pl.sine; rw [if_pos hr])
  clear hr
  go_enter Tryz.func82, Tryz.ntmps82
  go_upto_region 1 with (fail)
  go_outline
  apply wp_region_lit
  refine wpList_build_to rfl 98 _ rfl tabA (by kernel_rfl) ?_
  refine wpList_alloc_to rfl 98 rfl tabZ (by kernel_rfl) ?_
  refine wpList_store_new rfl 98 _ _ rfl tabZ tabA rfl rfl (by kernel_rfl) (by kernel_rfl) (by kernel_rfl) ?_
  apply wpList_nil
  have hc := tab_cell w (d / 65536).toNat (by omega)
  have hg := tab_get (d / 65536).toNat (by omega)
  go_wp2_with fail
  go_ret
  exact ⟨ret_int hs.out.symm, (Grown.refl w).alloc _ _⟩
theorem sine_part (d : Int) (h : 0 ≤ d ∧ d < 5898240) (hr : d % 65536 ≠ 0) (w : World) :
    Calls Tryz.prog 82 #[.int .i64 d] w fun e w' => e = .returned (.int .i64 (Pl.sine d)) ∧ Grown w w' := by
  have h0 : (d % 65536 == 0) = false := beq_eq_false_iff_ne.2 hr
  have hs := Lib.hid (show Pl.sine d = Pl.tb (d / 65536).toNat + Pl.share (Pl.tb ((d / 65536).toNat + 1) - Pl.tb (d / 65536).toNat) (d % 65536) 65536 by unfold Pl.sine; rw [if_neg hr])
  have hst := Pl.tb_step (d / 65536).toNat (by omega)
  have hbk := Pl.tb_bd (d / 65536).toNat (by omega)
  have hbk1 := Pl.tb_bd ((d / 65536).toNat + 1) (by omega)
  have hpb := Pl.part_bd (Pl.tb ((d / 65536).toNat + 1) - Pl.tb (d / 65536).toNat) (d % 65536) hst.1 (by omega)
  have CM := Lib.hid (fun w => fmul_ok (Pl.tb ((d / 65536).toNat + 1) - Pl.tb (d / 65536).toNat) (d % 65536) (by unfold Pl.fx; omega) (by unfold Pl.fx; omega) (by unfold Pl.fx; omega) w)
  have e1 : (d / 65536 + 1).toNat = (d / 65536).toNat + 1 := by omega
  clear hr
  go_enter Tryz.func82, Tryz.ntmps82
  go_upto_region 1 with (fail)
  apply wp_region_lit
  refine wpList_build_to rfl 98 _ rfl tabA (by kernel_rfl) ?_
  refine wpList_alloc_to rfl 98 rfl tabZ (by kernel_rfl) ?_
  refine wpList_store_new rfl 98 _ _ rfl tabZ tabA rfl rfl (by kernel_rfl) (by kernel_rfl) (by kernel_rfl) ?_
  apply wpList_nil
  have hc := tab_cell w (d / 65536).toNat (by omega)
  have hg := tab_get (d / 65536).toNat (by omega)
  have hc1 := tab_cell w ((d / 65536).toNat + 1) (by omega)
  have hg1 := tab_get ((d / 65536).toNat + 1) (by omega)
  go_wp2_with fail
  have f1 : IntKind.i64.wrap (d / 65536 + 1) = d / 65536 + 1 := IntWalk.i64_in _ (by omega)
  have f2 : (0 : Int) ≤ d / 65536 + 1 := by omega
  have f3 : d / 65536 + 1 < 91 := by omega
  have f4 : (0 : Int) ≤ d / 65536 := by omega
  have f5 : d / 65536 < 91 := by omega
  have f6 : IntKind.i64.wrap (Pl.tb ((d / 65536).toNat + 1) - Pl.tb (d / 65536).toNat) = Pl.tb ((d / 65536).toNat + 1) - Pl.tb (d / 65536).toNat := IntWalk.i64_in _ (by omega)
  go_region_with (go_at_call 73; refine (CM.out _).mono ?_; rintro e w2 ⟨rfl, g2⟩)
  all_goals
    clear f1 f6
    have hc2 := grown_cell g2 (by exact hc)
    go_wp2_with fail
    go_ret
    exact ⟨ret_int (by rw [hs.out]), grown_trans (Grown.drew ((Grown.refl w).alloc _ _)) g2⟩
theorem sine_any (d : Int) (h : 0 ≤ d ∧ d ≤ 5898240) (w : World) :
    Calls Tryz.prog 82 #[.int .i64 d] w fun e w' => e = .returned (.int .i64 (Pl.sine d)) ∧ Grown w w' := by
  by_cases hr : d % 65536 = 0
  · exact sine_whole d h hr w
  · exact sine_part d (by omega) hr w
theorem sin0_any (d : Int) (h : 0 ≤ d ∧ d ≤ 11796480) (w : World) :
    Calls Tryz.prog 53 #[.int .i64 d] w fun e w' => e = .returned (.int .i64 (Pl.sin0 d)) ∧ Grown w w' := by
  have hm : d % 23592960 = d := by omega
  have CB := Lib.hid (fun w => brought_any d w)
  rw [hm] at CB
  clear hm
  by_cases hq : 5898240 < d
  · have hs := Lib.hid (show Pl.sin0 d = Pl.sine (11796480 - d) by unfold Pl.sin0; rw [if_pos hq])
    go_enter Tryz.func53, Tryz.ntmps53
    go_wp2_with fail
    refine (CB.out _).mono ?_
    rintro e w1 ⟨rfl, rfl⟩
    go_wp2_with fail
    refine (sine_any (11796480 - d) (by omega) _).mono ?_
    rintro e w2 ⟨rfl, g2⟩
    go_wp2_with fail
    go_ret
    exact ⟨ret_int (by rw [hs.out]), g2⟩
  · have hs := Lib.hid (show Pl.sin0 d = Pl.sine d by unfold Pl.sin0; rw [if_neg hq])
    go_enter Tryz.func53, Tryz.ntmps53
    go_wp2_with fail
    refine (CB.out _).mono ?_
    rintro e w1 ⟨rfl, rfl⟩
    go_wp2_with fail
    refine (sine_any d (by omega) _).mono ?_
    rintro e w2 ⟨rfl, g2⟩
    go_wp2_with fail
    go_ret
    exact ⟨ret_int (by rw [hs.out]), g2⟩
theorem sin_any (v : Int) (w : World) :
    Calls Tryz.prog 53 #[.int .i64 v] w fun e w' => e = .returned (.int .i64 (Pl.sin v)) ∧ Grown w w' := by
  have CB := Lib.hid (fun w => brought_any v w)
  have hb : 0 ≤ v % 23592960 ∧ v % 23592960 < 23592960 := by omega
  have hsv : Pl.sin v = if 11796480 < v % 23592960 then -Pl.sin0 (v % 23592960 - 11796480) else Pl.sin0 (v % 23592960) := rfl
  generalize v % 23592960 = d at *
  by_cases hq : 11796480 < d
  · rw [if_pos hq] at hsv
    have hs := Lib.hid hsv; clear hsv
    have hbd := Pl.sin0_bd (d - 11796480) (by omega) (by omega)
    go_enter Tryz.func53, Tryz.ntmps53
    go_wp2_with fail
    refine (CB.out _).mono ?_
    rintro e w1 ⟨rfl, rfl⟩
    go_wp2_with fail
    refine (sin0_any (d - 11796480) (by omega) _).mono ?_
    rintro e w2 ⟨rfl, g2⟩
    go_wp2_with fail
    go_ret
    exact ⟨ret_int (by rw [hs.out]), g2⟩
  · rw [if_neg hq] at hsv
    have hsd : Pl.sin0 d = Pl.sine (if 5898240 < d then 11796480 - d else d) := rfl
    rw [hsd] at hsv
    clear hsd
    by_cases hr : 5898240 < d
    · rw [if_pos hr] at hsv
      have hs := Lib.hid hsv; clear hsv
      go_enter Tryz.func53, Tryz.ntmps53
      go_wp2_with fail
      refine (CB.out _).mono ?_
      rintro e w1 ⟨rfl, rfl⟩
      go_wp2_with fail
      refine (sine_any (11796480 - d) (by omega) _).mono ?_
      rintro e w2 ⟨rfl, g2⟩
      go_wp2_with fail
      go_ret
      exact ⟨ret_int (by rw [hs.out]), g2⟩
    · rw [if_neg hr] at hsv
      have hs := Lib.hid hsv; clear hsv
      go_enter Tryz.func53, Tryz.ntmps53
      go_wp2_with fail
      refine (CB.out _).mono ?_
      rintro e w1 ⟨rfl, rfl⟩
      go_wp2_with fail
      refine (sine_any d (by omega) _).mono ?_
      rintro e w2 ⟨rfl, g2⟩
      go_wp2_with fail
      go_ret
      exact ⟨ret_int (by rw [hs.out]), g2⟩
theorem cos_any (v : Int) (w : World) :
    Calls Tryz.prog 54 #[.int .i64 v] w fun e w' => e = .returned (.int .i64 (Pl.cos v)) ∧ Grown w w' := by
  have hb : 0 ≤ v % 23592960 ∧ v % 23592960 < 23592960 := by omega
  go_enter Tryz.func54, Tryz.ntmps54
  go_wp2_with fail
  refine (brought_any v _).mono ?_
  rintro e w1 ⟨rfl, rfl⟩
  go_wp2_with fail
  refine (sin_any (v % 23592960 + 5898240) _).mono ?_
  rintro e w2 ⟨rfl, g2⟩
  go_wp2_with fail
  go_ret
  exact ⟨rfl, g2⟩
end Go.Proofs.YtfmmomdmemcbbaaGreat
namespace Go.Proofs.YtfmmomdmemcbbaaGreat
set_option linter.unusedVariables false
open Go.RowKit
abbrev DirS (w0 : World) (A B : Nat) (y x : Int) (w : World) : Prop := w.cell? ⟨A, 0, none⟩ = some (.int .i64 y) ∧ w.cell? ⟨B, 0, none⟩ = some (.int .i64 x) ∧ Grown w0 w
theorem cosS (w0 w : World) (A B : Nat) (y x v : Int) (h : DirS w0 A B y x w) :
    Calls Tryz.prog 54 #[.int .i64 v] w fun e w' => e = .returned (.int .i64 (Pl.cos v)) ∧ DirS w0 A B y x w' :=
  (cos_any v w).mono fun _ _ ⟨he, hg⟩ => ⟨he, grown_cell hg h.1, grown_cell hg h.2.1, grown_trans h.2.2 hg⟩
theorem sinS (w0 w : World) (A B : Nat) (y x v : Int) (h : DirS w0 A B y x w) :
    Calls Tryz.prog 53 #[.int .i64 v] w fun e w' => e = .returned (.int .i64 (Pl.sin v)) ∧ DirS w0 A B y x w' :=
  (sin_any v w).mono fun _ _ ⟨he, hg⟩ => ⟨he, grown_cell hg h.1, grown_cell hg h.2.1, grown_trans h.2.2 hg⟩
theorem ahead_any (A B : Nat) (y x v : Int) (hy : -1073741823 ≤ y ∧ y ≤ 1073741823) (hx : -1073741823 ≤ x ∧ x ≤ 1073741823) (w : World)
    (hA : w.cell? ⟨A, 0, none⟩ = some (.int .i64 y)) (hB : w.cell? ⟨B, 0, none⟩ = some (.int .i64 x)) :
    Calls Tryz.prog 114 #[.int .i64 v, .pointer (some ⟨A, 0, none⟩), .pointer (some ⟨B, 0, none⟩)] w fun e w' => e = .returned (.int .i64 (Pl.cos v * y - Pl.sin v * x)) ∧ DirS w A B y x w' := by
  have b1 := Pl.mul_bd46 _ _ (Pl.cos_bd v) hy
  have b2 := Pl.mul_bd46 _ _ (Pl.sin_bd v) hx
  have f1 : IntKind.i64.wrap (Pl.cos v * y) = Pl.cos v * y := IntWalk.i64_in _ (by omega)
  have f2 : IntKind.i64.wrap (Pl.sin v * x) = Pl.sin v * x := IntWalk.i64_in _ (by omega)
  have f3 : IntKind.i64.wrap (Pl.cos v * y - Pl.sin v * x) = Pl.cos v * y - Pl.sin v * x := IntWalk.i64_in _ (by omega)
  clear b1 b2
  have hS0 : DirS w A B y x w.drew := ⟨hA, hB, Grown.drew (Grown.refl w)⟩
  go_enter Tryz.func114, Tryz.ntmps114
  go_wp2_with fail
  go_region_held3 (fun w' => w'.cell? ⟨A, 0, none⟩ = some (.int .i64 y) ∧ w'.cell? ⟨B, 0, none⟩ = some (.int .i64 x) ∧ Grown w w') (first | assumption | go_keep)
    (first | (go_at_call 54; refine (cosS w _ A B y x v ?_).mono ?_; (assumption); rintro e w' ⟨rfl, hS⟩) | (go_at_call 53; refine (sinS w _ A B y x v ?_).mono ?_; (assumption); rintro e w' ⟨rfl, hS⟩))
  rename_i hSw
  go_wp2
  go_ret
  exact ⟨rfl, hSw⟩
theorem begin_any (y x : Int) (w : World) :
    Calls Tryz.prog 113 #[.int .i64 y, .int .i64 x] w fun e w' => e = .returned (.int .i64 (Pl.begin y x)) ∧ w = w' := by
  have hb : Pl.begin y x = if 0 < x ∧ 0 ≤ y then 0 else if x ≤ 0 ∧ 0 < y then 5898240 else if x < 0 then 11796480 else 17694720 := rfl
  have hc : (0 < x ∧ 0 ≤ y ∧ Hid (Pl.begin y x = 0)) ∨ (x ≤ 0 ∧ 0 < y ∧ Hid (Pl.begin y x = 5898240)) ∨ (x < 0 ∧ y ≤ 0 ∧ Hid (Pl.begin y x = 11796480)) ∨ (0 < x ∧ y < 0 ∧ Hid (Pl.begin y x = 17694720)) ∨ (x ≤ 0 ∧ 0 ≤ x ∧ y ≤ 0 ∧ Hid (Pl.begin y x = 17694720)) := by
    by_cases c1 : 0 < x
    · by_cases c2 : 0 ≤ y
      · exact .inl ⟨c1, c2, Lib.hid (by rw [hb, if_pos ⟨c1, c2⟩])⟩
      · exact .inr (.inr (.inr (.inl ⟨c1, by omega, Lib.hid (by rw [hb, if_neg (by omega), if_neg (by omega), if_neg (by omega)])⟩)))
    · by_cases c2 : 0 < y
      · exact .inr (.inl ⟨by omega, c2, Lib.hid (by rw [hb, if_neg (by omega), if_pos ⟨by omega, c2⟩])⟩)
      · by_cases c3 : x < 0
        · exact .inr (.inr (.inl ⟨c3, by omega, Lib.hid (by rw [hb, if_neg (by omega), if_neg (by omega), if_pos c3])⟩))
        · exact .inr (.inr (.inr (.inr ⟨by omega, by omega, by omega, Lib.hid (by rw [hb, if_neg (by omega), if_neg (by omega), if_neg (by omega)])⟩)))
  clear hb
  rcases hc with ⟨h1, h2, h3⟩ | ⟨h1, h2, h3⟩ | ⟨h1, h2, h3⟩ | ⟨h1, h2, h3⟩ | ⟨h1, h4, h2, h3⟩
  all_goals
    go_enter Tryz.func113, Tryz.ntmps113
    go_wp2
    go_ret
    exact ⟨ret_int h3.out.symm, rfl⟩
theorem dir_no (y x : Int) (h : (y = 0 ∧ x = 0) ∨ ¬ (-1073741823 ≤ y ∧ y ≤ 1073741823) ∨ ¬ (-1073741823 ≤ x ∧ x ≤ 1073741823)) (w : World) :
    Calls Tryz.prog 75 #[.int .i64 y, .int .i64 x] w fun e w' => e = .returned (.tuple #[.int .i64 0, .bool false]) ∧ Grown w w' := by
  have hc : (y = 0 ∧ x = 0) ∨ (1073741823 < y ∧ (y == 0) = false) ∨ (y < -1073741823 ∧ (y == 0) = false) ∨
      ((-1073741823 ≤ y ∧ y ≤ 1073741823) ∧ 1073741823 < x ∧ (x == 0) = false ∧ ((y == 0) = true ∨ (y == 0) = false)) ∨
      ((-1073741823 ≤ y ∧ y ≤ 1073741823) ∧ x < -1073741823 ∧ (x == 0) = false ∧ ((y == 0) = true ∨ (y == 0) = false)) := by
    have hyb : (y == 0) = true ∨ (y == 0) = false := by cases (y == 0) <;> simp
    by_cases c1 : y = 0 ∧ x = 0
    · exact .inl c1
    · by_cases c2 : 1073741823 < y
      · exact .inr (.inl ⟨c2, beq_eq_false_iff_ne.2 (by omega)⟩)
      · by_cases c3 : y < -1073741823
        · exact .inr (.inr (.inl ⟨c3, beq_eq_false_iff_ne.2 (by omega)⟩))
        · by_cases c4 : 1073741823 < x
          · exact .inr (.inr (.inr (.inl ⟨by omega, c4, beq_eq_false_iff_ne.2 (by omega), hyb⟩)))
          · exact .inr (.inr (.inr (.inr ⟨by omega, by omega, beq_eq_false_iff_ne.2 (by omega), hyb⟩)))
  clear h
  rcases hc with ⟨rfl, rfl⟩ | ⟨h1, h2⟩ | ⟨h1, h2⟩ | ⟨h1, h2, h3, h4 | h4⟩ | ⟨h1, h2, h3, h4 | h4⟩
  all_goals
    go_enter Tryz.func75, Tryz.ntmps75
    go_wp2_with fail
    go_ret2
    exact ⟨rfl, ((Grown.refl w).alloc _ _).alloc _ _⟩
theorem ahead_at (w0 : World) (A B : Nat) (y x low : Int) (j : Nat) (hy : -1073741823 ≤ y ∧ y ≤ 1073741823) (hx : -1073741823 ≤ x ∧ x ≤ 1073741823) (hl : Pl.begin y x = low) (w : World) (h : DirS w0 A B y x w) :
    Calls Tryz.prog 114 #[.int .i64 (low + (j : Int) * 65536), .pointer (some ⟨A, 0, none⟩), .pointer (some ⟨B, 0, none⟩)] w fun e w' => e = .returned (.int .i64 (Pl.gAt y x j)) ∧ DirS w0 A B y x w' := by
  refine (ahead_any A B y x (low + (j : Int) * 65536) hy hx w h.1 h.2.1).mono fun e w' ⟨he, h1, h2, h3⟩ => ⟨?_, h1, h2, grown_trans h.2.2 h3⟩
  rw [he]; unfold Pl.gAt Pl.ahead; rw [hl]
theorem dir_core (y x low : Int) (J : Nat) (hy : -1073741823 ≤ y ∧ y ≤ 1073741823) (hx : -1073741823 ≤ x ∧ x ≤ 1073741823) (h0 : ((y == 0) = false ∧ (x == x) = true) ∨ ((y == 0) = true ∧ (x == 0) = false))
    (hl : Hid (Pl.begin y x = low)) (hJ : Hid (Pl.dirJ y x = J)) (w : World) :
    Calls Tryz.prog 75 #[.int .i64 y, .int .i64 x] w fun e w' => e = .returned (.tuple #[.int .i64 (Pl.dir y x), .bool true]) ∧ Grown w w' := by
  have hlb := Pl.begin_bd y x
  rw [hl.out] at hlb
  have CA := Lib.hid (fun (j : Nat) (w' : World) (h : DirS w w.heap.size (w.heap.size + 1) y x w') => ahead_at w w.heap.size (w.heap.size + 1) y x low j hy hx hl.out w' h)
  have hG := Lib.hid (fun j => Pl.gAt_bd y x j hy hx)
  have hd : Pl.dir y x = if Pl.gAt y x 0 ≤ 0 then Pl.begin y x else Pl.dirEnd y x (Pl.dirJ y x) := rfl
  rw [hl.out, hJ.out] at hd
  have HD := Lib.hid hd; clear hd
  have hst : Hid (Pl.stopFrom (Pl.gAt y x) 90 1 = J) := hJ.out
  have hes : ∀ j, Pl.dirEnd y x j = if Pl.gAt y x j < 0 then (low + (j : Int) * 65536 + Pl.share (Pl.gAt y x (j - 1)) 65536 (Pl.gAt y x (j - 1) - Pl.gAt y x j) - 65536) % 23592960 else (low + (j : Int) * 65536) % 23592960 := by
    intro j; unfold Pl.dirEnd; rw [hl.out]
  have HE := Lib.hid hes; clear hes
  have e0 : low + ((0 : Nat) : Int) * 65536 = low := by omega
  have C0 := Lib.hid (fun W h => CA.out 0 W h)
  rw [e0] at C0
  clear e0
  generalize Pl.gAt y x = G at *
  have hG0 := hG.out 0
  by_cases hle : G 0 ≤ 0
  · have HR := Lib.hid (HD.out.trans (if_pos hle))
    rcases h0 with ⟨h0, h1⟩ | ⟨h0, h1⟩
    all_goals
      go_enter Tryz.func75, Tryz.ntmps75
      go_wp2_with fail
      refine (begin_any y x _).mono ?_
      rintro e w1 ⟨rfl, rfl⟩
      rw [hl.out]
      go_wp2_with fail
      refine (C0.out _ ⟨by simp [go_sem], by simp [go_sem], ((Grown.refl w).alloc _ _).alloc _ _⟩).mono ?_
      rintro e w1 ⟨rfl, hS⟩
      go_wp2_with fail
      go_ret2
      exact ⟨ret_ib (by rw [HR.out]) rfl, hS.2.2⟩
  · have HR := Lib.hid (HD.out.trans (if_neg hle))
    have hpos : 0 < G 0 := by omega
    clear hle
    rcases h0 with ⟨h0, h1⟩ | ⟨h0, h1⟩
    all_goals
      go_enter Tryz.func75, Tryz.ntmps75
      go_wp2_with fail
      refine (begin_any y x _).mono ?_
      rintro e w1 ⟨rfl, rfl⟩
      rw [hl.out]
      go_wp2_with fail
      refine (C0.out _ ⟨by simp [go_sem], by simp [go_sem], ((Grown.refl w).alloc _ _).alloc _ _⟩).mono ?_
      rintro e w1 ⟨rfl, hS⟩
      go_wp2_with fail
      obtain ⟨hS1, hS2, hS3⟩ := hS
      go_loopw [8, 9] (fun was deg wr => ∃ (j : Nat) (D : Int), 1 ≤ j ∧ j ≤ 90 ∧ (low + (j : Int) * 65536 ≤ D ∧ D ≤ low + (j : Int) * 65536) ∧ deg = .int .i64 D ∧ was = .int .i64 (G (j - 1)) ∧ 0 < G (j - 1) ∧ Hid (Pl.stopFrom G (91 - j) j = J) ∧ Hid (DirS w w.heap.size (w.heap.size + 1) y x wr))
        (fun _ deg _ => (low + 6000000 - intOf deg).toNat)
      case atStart => exact ⟨1, _, by omega, by omega, by omega, rfl, rfl, hpos, hst, ⟨hS1, hS2, hS3⟩⟩
      case round =>
        obtain ⟨j, D, hj1, hj2, hD, rfl, rfl, hwas, HST, HDS⟩ := hrel
        have eD : low + (j : Int) * 65536 = D := by omega
        have hgj := hG.out j
        have hgw := hG.out (j - 1)
        have CJ := Lib.hid (CA.out j _ HDS.out)
        have HE := HE.out j
        rw [eD] at CJ HE
        have ED := Lib.hid eD; clear eD
        have hunf : Pl.stopFrom G (91 - j) j = if 0 < G j ∧ j < 90 then Pl.stopFrom G (91 - (j + 1)) (j + 1) else j := by
          rw [show 91 - j = (91 - (j + 1)) + 1 by omega]; rfl
        have HU := Lib.hid (hunf.symm.trans HST.out); clear hunf
        by_cases c : 0 < G j ∧ j < 90
        · have HJ := HU.out
          rw [if_pos c] at HJ
          have HJ' := Lib.hid HJ; clear HJ
          obtain ⟨c1, c2⟩ := c
          clear HE
          have c3 : decide (D < low + 5898240) = true := decide_eq_true (by omega)
          have c4 : decide (0 < G j) = true := decide_eq_true c1
          go_wp2_with fail
          refine CJ.out.mono ?_
          rintro e w2 ⟨rfl, hS⟩
          go_wp2_with fail
          go_roundw
          case rel => exact ⟨j + 1, _, by omega, by omega, by omega, rfl, rfl, c1, HJ'.out, hS⟩
          case measure => simp [intOf] <;> omega
        · have HJ := HU.out
          rw [if_neg c] at HJ
          subst HJ
          have HEJ := HE
          clear HE
          by_cases n : G j < 0
          · rw [if_pos n] at HEJ
            have HEJ' := Lib.hid HEJ; clear HEJ
            have hsh := Pl.share_part (G (j - 1)) (G (j - 1) - G j) hwas (by omega)
            have CM := Lib.hid (fun w => muldiv_ok (G (j - 1)) 65536 (G (j - 1) - G j) (by unfold Pl.i64; omega) (by decide) (by unfold Pl.i64; omega) (by omega) (by unfold Pl.i64; omega) w)
            clear c
            have n1 : decide (0 < G j) = false := decide_eq_false (by omega)
            have n2 : decide (G j < 0) = true := decide_eq_true n
            go_wp2_with fail
            refine CJ.out.mono ?_
            rintro e w2 ⟨rfl, hS⟩
            go_wp2_with fail
            refine (CM.out _).mono ?_
            rintro e w3 ⟨rfl, g3⟩
            go_wp2_with fail
            go_ret2
            exact ⟨ret_ib (by rw [HR.out, HEJ'.out]; congr 1; omega) rfl, grown_trans hS.2.2 g3⟩
          · rw [if_neg n] at HEJ
            have HEJ' := Lib.hid HEJ; clear HEJ
            have hc : (G j ≤ 0) ∨ (0 < G j ∧ 90 ≤ j) := by omega
            clear c
            have hc' : (decide (0 < G j) = false ∧ True) ∨ (decide (0 < G j) = true ∧ decide (D < low + 5898240) = false) := by
              rcases hc with hc | ⟨hc, hc2⟩
              · exact .inl ⟨decide_eq_false (by omega), trivial⟩
              · exact .inr ⟨decide_eq_true hc, decide_eq_false (by omega)⟩
            clear hc
            have n' : decide (G j < 0) = false := decide_eq_false n
            rcases hc' with ⟨hc, _⟩ | ⟨hc, hc2⟩
            all_goals
              go_wp2_with fail
              refine CJ.out.mono ?_
              rintro e w2 ⟨rfl, hS⟩
              go_wp2_with fail
              go_ret2
              exact ⟨ret_ib (by rw [HR.out, HEJ'.out]) rfl, hS.2.2⟩
theorem dir_ok (y x : Int) (hy : -1073741823 ≤ y ∧ y ≤ 1073741823) (hx : -1073741823 ≤ x ∧ x ≤ 1073741823) (h : ¬ (y = 0 ∧ x = 0)) (w : World) :
    Calls Tryz.prog 75 #[.int .i64 y, .int .i64 x] w fun e w' => e = .returned (.tuple #[.int .i64 (Pl.dir y x), .bool true]) ∧ Grown w w' := by
  refine dir_core y x _ _ hy hx ?_ (Lib.hid rfl) (Lib.hid rfl) w
  by_cases h0 : y = 0
  · exact .inr ⟨beq_iff_eq.2 h0, beq_eq_false_iff_ne.2 (fun h1 => h ⟨h0, h1⟩)⟩
  · exact .inl ⟨beq_eq_false_iff_ne.2 h0, by simp⟩
end Go.Proofs.YtfmmomdmemcbbaaGreat
namespace Go.Proofs.YtfmmomdmemcbbaaGreat
set_option linter.unusedVariables false
open Go.RowKit
def Pl.numv (o : Pl.Ob) : Int × Bool := if o.1 = 3 then (if -16383 ≤ o.2.2.1 ∧ o.2.2.1 ≤ 16383 then (o.2.2.1 * 65536, true) else (0, false)) else (o.2.2.1, true)
theorem Pl.mayO_num {o : Pl.Ob} (h : Pl.mayO o) (hk : o.1 = 3 ∨ o.1 = 4) : ∃ x, o = (o.1, x, o.2.2.1, 0, 0, ⟨#[]⟩) ∧ (o.1 = 3 → Pl.inInt o.2.2.1) ∧ (o.1 = 4 → Pl.inFix o.2.2.1) := by
  obtain ⟨k, x, n, a, l, s⟩ := o
  unfold Pl.mayO Pl.may Pl.bare at h
  unfold Pl.inInt Pl.inFix
  simp only at h hk ⊢
  refine ⟨x, ?_, fun q => by omega, fun q => by omega⟩
  have h2 : (a = 0 ∧ l = 0 ∧ s = ⟨#[]⟩) := by
    rcases h with h | h | h | h
    · omega
    · omega
    · omega
    · exact h.1
  rw [h2.1, h2.2.1, h2.2.2]
theorem num_obj (o : Pl.Ob) (hm : Pl.mayO o) (hk : o.1 = 3 ∨ o.1 = 4) (W : World) :
    Calls Tryz.prog 51 #[Pl.ov o] W fun e w' => e = .returned (.tuple #[.int .i64 (Pl.numv o).1, .bool (Pl.numv o).2]) ∧ Grown W w' := by
  obtain ⟨x, ho, h3, h4⟩ := Pl.mayO_num hm hk
  obtain ⟨k, x2, n, a, l, s⟩ := o
  simp only at ho hk h3 h4
  rcases hk with rfl | rfl
  · unfold Pl.numv
    rw [if_pos rfl]
    injection ho with _ ho
    injection ho with _ ho
    injection ho with _ ho
    injection ho with q1 ho
    injection ho with q2 q3
    subst q1
    subst q2
    subst q3
    by_cases hr : -16383 ≤ n ∧ n ≤ 16383
    · rw [if_pos hr]
      exact num_int x2 n hr W
    · rw [if_neg hr]
      exact num_by3 x2 n 0 0 _ _ _ (Lib.hid fun W => (ffrom_no n hr W).mono fun e W' ⟨he, hw⟩ => ⟨he, hw ▸ Grown.refl _⟩) W
  · unfold Pl.numv
    rw [if_neg (by simp)]
    injection ho with _ ho
    injection ho with _ ho
    injection ho with _ ho
    injection ho with q1 ho
    injection ho with q2 q3
    subst q1
    subst q2
    subst q3
    exact num_fix x2 n (h4 rfl) W
theorem Pl.numv_fix {o : Pl.Ob} (hm : Pl.mayO o) (hk : o.1 = 3 ∨ o.1 = 4) : Pl.fx (Pl.numv o).1 := by
  obtain ⟨x, ho, h3, h4⟩ := Pl.mayO_num hm hk
  unfold Pl.numv
  split
  · split
    · unfold Pl.fx; simp only; omega
    · unfold Pl.fx; simp only; omega
  · rename_i h
    have := h4 (hk.resolve_left h)
    unfold Pl.inFix at this
    unfold Pl.fx
    exact this
def Pl.f2 (n x y : Int) : Int × Bool :=
  if n = 11 then (if Pl.inFix (x + y) then (x + y, true) else (0, false))
  else if n = 12 then (if Pl.inFix (x - y) then (x - y, true) else (0, false))
  else if n = 13 then (if Pl.inFix (Pl.share x y 65536) then (Pl.share x y 65536, true) else (0, false))
  else if n = 14 then (if y ≠ 0 ∧ Pl.inFix (Pl.share x 65536 y) then (Pl.share x 65536 y, true) else (0, false))
  else (if x = 0 ∧ y = 0 then (0, false) else (Pl.dir x y, true))
theorem f2_add (x y : Int) (hx : Pl.fx x) (hy : Pl.fx y) (W : World) : Calls Tryz.prog 71 #[.int .i64 x, .int .i64 y] W fun e w' => e = .returned (.tuple #[.int .i64 (Pl.f2 11 x y).1, .bool (Pl.f2 11 x y).2]) ∧ Grown W w' := by
  unfold Pl.f2
  rw [if_pos rfl]
  by_cases h : Pl.inFix (x + y)
  · rw [if_pos h]; exact fadd_ok x y hx hy h W
  · rw [if_neg h]; exact fadd_no x y (fun k => h k.2.2) W
theorem f2_sub (x y : Int) (hx : Pl.fx x) (hy : Pl.fx y) (W : World) : Calls Tryz.prog 72 #[.int .i64 x, .int .i64 y] W fun e w' => e = .returned (.tuple #[.int .i64 (Pl.f2 12 x y).1, .bool (Pl.f2 12 x y).2]) ∧ Grown W w' := by
  unfold Pl.f2
  rw [if_neg (by decide), if_pos rfl]
  by_cases h : Pl.inFix (x - y)
  · rw [if_pos h]; exact fsub_ok x y hx hy h W
  · rw [if_neg h]; exact fsub_no x y (fun k => h k.2.2) W
theorem f2_mul (x y : Int) (hx : Pl.fx x) (hy : Pl.fx y) (W : World) : Calls Tryz.prog 73 #[.int .i64 x, .int .i64 y] W fun e w' => e = .returned (.tuple #[.int .i64 (Pl.f2 13 x y).1, .bool (Pl.f2 13 x y).2]) ∧ Grown W w' := by
  unfold Pl.f2
  rw [if_neg (by decide), if_neg (by decide), if_pos rfl]
  by_cases h : Pl.inFix (Pl.share x y 65536)
  · rw [if_pos h]; exact fmul_ok x y hx hy h W
  · rw [if_neg h]; exact fmul_no x y (fun k => h k.2.2) W
theorem f2_div (x y : Int) (hx : Pl.fx x) (hy : Pl.fx y) (W : World) : Calls Tryz.prog 74 #[.int .i64 x, .int .i64 y] W fun e w' => e = .returned (.tuple #[.int .i64 (Pl.f2 14 x y).1, .bool (Pl.f2 14 x y).2]) ∧ Grown W w' := by
  unfold Pl.f2
  rw [if_neg (by decide), if_neg (by decide), if_neg (by decide), if_pos rfl]
  by_cases h : y ≠ 0 ∧ Pl.inFix (Pl.share x 65536 y)
  · rw [if_pos h]; exact fdiv_ok x y hx hy h.1 h.2 W
  · rw [if_neg h]; exact fdiv_no x y (fun k => h k.2.2) W
theorem f2_dir (x y : Int) (hx : Pl.fx x) (hy : Pl.fx y) (W : World) : Calls Tryz.prog 75 #[.int .i64 x, .int .i64 y] W fun e w' => e = .returned (.tuple #[.int .i64 (Pl.f2 26 x y).1, .bool (Pl.f2 26 x y).2]) ∧ Grown W w' := by
  unfold Pl.f2
  rw [if_neg (by decide), if_neg (by decide), if_neg (by decide), if_neg (by decide)]
  by_cases h : x = 0 ∧ y = 0
  · rw [if_pos h]; exact dir_no x y (.inl h) W
  · rw [if_neg h]; exact dir_ok x y hx hy h W
end Go.Proofs.YtfmmomdmemcbbaaGreat
namespace Go.Proofs.YtfmmomdmemcbbaaGreat
set_option linter.unusedVariables false
open Go.RowKit
def MapAt (W : World) (r : Nat) (es : Array MapEntry) (c : Nat) (Z : World) : Prop := W.heap.size ≤ r ∧ Z.heap[r]? = some (.map es c) ∧ Grown W Z
theorem grown_map {W Z Z' : World} {r : Nat} {es : Array MapEntry} {c : Nat} (h : Grown W Z) (hr : W.heap.size ≤ r) (ho : Z'.os = Z.os) (hu : Z'.output = Z.output) (hs : Z.heap.size ≤ Z'.heap.size) (hb : Z'.heap[r]? = some (.map es c)) (hz : ∀ e : Array Value, ∀ t f, Z.heap[r]? ≠ some (.cells e t f)) (ha : ∀ i, i ≠ r → Z'.heap[i]? = Z.heap[i]?) : Grown W Z' := by
  obtain ⟨⟨h1, h2, h3⟩, hf, hsz⟩ := h
  refine ⟨⟨ho.trans h1, hu.trans h2, fun i hi => ?_⟩, fun a => ?_, Nat.le_trans hsz hs⟩
  · rw [ha i (by omega)]; exact h3 i hi
  · rw [← hf a]
    unfold World.frozen?
    by_cases e : a.block = r
    · rw [e, hb]
      cases hq : Z.heap[r]? with
      | none => rfl
      | some o =>
        cases o with
        | cells e t f => exact absurd hq (hz e t f)
        | _ => rfl
    · rw [ha _ e]
theorem MapAt.new {W Z : World} (h : Grown W Z) : MapAt W Z.heap.size #[] 0 (Z.alloc (.map #[] 0)) := by
  have hb := MapKept.heap_alloc Z (.map #[] 0)
  refine ⟨h.2.2, hb.1, grown_map h h.2.2 rfl rfl (by simp) hb.1 (fun e t f q => by rw [Array.getElem?_eq_none (Nat.le_refl _)] at q; cases q) (fun i hi => ?_)⟩
  rcases Nat.lt_or_ge i Z.heap.size with q | q
  · exact hb.2 i q
  · rw [Array.getElem?_eq_none (by simp; omega), Array.getElem?_eq_none q]
theorem MapAt.put {W Z : World} {r : Nat} {es : Array MapEntry} {c : Nat} (h : MapAt W r es c Z) (mty et : TypeId) (k : Int) (val : Value) (hm : Tryz.prog.underlying mty = some (.map 3 et)) (hf : Instr.findNow (.int .i64) (.int .i64 k) es.toList 0 = some none) :
    ∃ Z', (Instr.mapUpdate mty (.map (some r)) (.int .i64 k) val).run Tryz.prog Z = .ok () Z' ∧ MapAt W r (es.push { key := .int .i64 k, val := val, born := c }) (c + 1) Z' := by
  obtain ⟨h1, h2, h3⟩ := h
  have hc : (Instr.checkKey false 10000 3 (.int .i64 k)).run Tryz.prog Z = .ok () Z := MapKept.run_checkKey Tryz.underlying3 (by simp [MapKept.IsKey]) false 9999
  have hs := MapKept.heap_set (w := Z) (o' := .map (es.push { key := .int .i64 k, val := val, born := c }) (c + 1)) h2
  refine ⟨{ Z with heap := Z.heap.setIfInBounds r (.map (es.push { key := .int .i64 k, val := val, born := c }) (c + 1)) }, ?_, h1, hs.1, grown_map h3 h1 rfl rfl (by simp) hs.1 (fun e t f q => by rw [h2] at q; cases q) (fun i hi => hs.2 i hi)⟩
  simp [Instr.mapUpdate, run_underlying hm, MapKept.run_getObj_map h2, hc, MapKept.run_findKey Tryz.underlying3 hf, MapKept.run_setObj_map _ h2, Result.andThen]
theorem MapAt.get {W Z : World} {r : Nat} {es : Array MapEntry} {c : Nat} (h : MapAt W r es c Z) (mty et : TypeId) (k : Int) (i : Nat) (val : Value) (hm : Tryz.prog.underlying mty = some (.map 3 et)) (hf : Instr.findNow (.int .i64) (.int .i64 k) es.toList 0 = some (some (i, val))) :
    (Instr.lookup mty (.map (some r)) (.int .i64 k) false).run Tryz.prog Z = .ok val Z := by
  obtain ⟨h1, h2, h3⟩ := h
  have hc : ∀ b, (Instr.checkKey b 10000 3 (.int .i64 k)).run Tryz.prog Z = .ok () Z := fun b => MapKept.run_checkKey Tryz.underlying3 (by simp [MapKept.IsKey]) b 9999
  simp [Instr.lookup, run_underlying hm, MapKept.run_getObj_map h2, hc, MapKept.run_findKey Tryz.underlying3 hf, Result.andThen]
theorem map_two (W : World) : ∃ r w1 w2 w3 w4 w5 w6, (Instr.makeMap 87 none).run Tryz.prog W = .ok (.map (some r)) w1 ∧
    (Instr.mapUpdate 87 (.map (some r)) (.int .i64 11) (.func (.func 71) #[] #[])).run Tryz.prog w1 = .ok () w2 ∧
    (Instr.mapUpdate 87 (.map (some r)) (.int .i64 12) (.func (.func 72) #[] #[])).run Tryz.prog w2 = .ok () w3 ∧
    (Instr.mapUpdate 87 (.map (some r)) (.int .i64 13) (.func (.func 73) #[] #[])).run Tryz.prog w3 = .ok () w4 ∧
    (Instr.mapUpdate 87 (.map (some r)) (.int .i64 14) (.func (.func 74) #[] #[])).run Tryz.prog w4 = .ok () w5 ∧
    (Instr.mapUpdate 87 (.map (some r)) (.int .i64 26) (.func (.func 75) #[] #[])).run Tryz.prog w5 = .ok () w6 ∧ Grown W w6 ∧
    (Instr.lookup 87 (.map (some r)) (.int .i64 11) false).run Tryz.prog w6 = .ok (.func (.func 71) #[] #[]) w6 ∧
    (Instr.lookup 87 (.map (some r)) (.int .i64 12) false).run Tryz.prog w6 = .ok (.func (.func 72) #[] #[]) w6 ∧
    (Instr.lookup 87 (.map (some r)) (.int .i64 13) false).run Tryz.prog w6 = .ok (.func (.func 73) #[] #[]) w6 ∧
    (Instr.lookup 87 (.map (some r)) (.int .i64 14) false).run Tryz.prog w6 = .ok (.func (.func 74) #[] #[]) w6 ∧
    (Instr.lookup 87 (.map (some r)) (.int .i64 26) false).run Tryz.prog w6 = .ok (.func (.func 75) #[] #[]) w6 := by
  have m1 := MapAt.new (Grown.refl W)
  obtain ⟨w2, r2, m2⟩ := m1.put 87 _ 11 (.func (.func 71) #[] #[]) Tryz.underlying87 rfl
  obtain ⟨w3, r3, m3⟩ := m2.put 87 _ 12 (.func (.func 72) #[] #[]) Tryz.underlying87 rfl
  obtain ⟨w4, r4, m4⟩ := m3.put 87 _ 13 (.func (.func 73) #[] #[]) Tryz.underlying87 rfl
  obtain ⟨w5, r5, m5⟩ := m4.put 87 _ 14 (.func (.func 74) #[] #[]) Tryz.underlying87 rfl
  obtain ⟨w6, r6, m6⟩ := m5.put 87 _ 26 (.func (.func 75) #[] #[]) Tryz.underlying87 rfl
  exact ⟨_, _, _, _, _, _, _, run_makeMap_plain W _, r2, r3, r4, r5, r6, m6.2.2, m6.get _ _ 11 0 _ Tryz.underlying87 rfl, m6.get _ _ 12 1 _ Tryz.underlying87 rfl, m6.get _ _ 13 2 _ Tryz.underlying87 rfl, m6.get _ _ 14 3 _ Tryz.underlying87 rfl, m6.get _ _ 26 4 _ Tryz.underlying87 rfl⟩
end Go.Proofs.YtfmmomdmemcbbaaGreat
namespace Go.Proofs.YtfmmomdmemcbbaaGreat
set_option linter.unusedVariables false
open Go.RowKit
theorem Pl.not_i64 (x : Int) (hx : -9223372036854775808 ≤ x ∧ x ≤ 9223372036854775807) : bits .xor .i64 (-1) x = -x - 1 := by
  show IntKind.i64.wrap ((BitVec.ofInt 64 (-1) ^^^ BitVec.ofInt 64 x).toNat : Int) = _
  have e1 : BitVec.ofInt 64 (-1) = BitVec.allOnes 64 := by decide
  rw [e1, BitVec.allOnes_xor, BitVec.toNat_not]
  have h := Pl.toNat_ofInt64 x
  have hlt := (BitVec.ofInt 64 x).isLt
  rw [IntKind.wrap_i64]
  omega
section
variable (W0 : World) (Pr : Nat → Prop) (p : Nat) (L : List Pl.Ob) (W : World) (hlen : L.length ≤ 200) (h : Stk W0 Pr p L W)
include h hlen
theorem give_row0 (o : Pl.Ob) (A : Array Value) (hA : A.toList = Pl.oc o) (hm : Pl.mayO o) (b : Nat) (hb : b = W.heap.size) :
    Calls Tryz.prog 24 #[.pointer (some ⟨p, 0, none⟩), .int .i64 0, .slice (some ⟨b, 0, none⟩) 1 1] (W.alloc (.cells A 25)) fun e w' => e = .returned (.int .i64 (Pl.giveR L 0 [o]).1) ∧ Stk W0 Pr p (Pl.giveR L 0 [o]).2 w' ∧ FrS W0 Pr W w' :=
  give_row W0 Pr p L W hlen h 0 [o] A (by simpa [Pl.flat] using hA) 1 rfl (Nat.zero_le _) (by simp) (fun o2 ho => by rw [List.mem_singleton.1 ho]; exact hm) b hb
theorem give_row1 (o : Pl.Ob) (A : Array Value) (hA : A.toList = Pl.oc o) (h1 : 1 ≤ L.length) (hm : Pl.mayO o) (b : Nat) (hb : b = W.heap.size) :
    Calls Tryz.prog 24 #[.pointer (some ⟨p, 0, none⟩), .int .i64 1, .slice (some ⟨b, 0, none⟩) 1 1] (W.alloc (.cells A 25)) fun e w' => e = .returned (.int .i64 (Pl.giveR L 1 [o]).1) ∧ Stk W0 Pr p (Pl.giveR L 1 [o]).2 w' ∧ FrS W0 Pr W w' :=
  give_row W0 Pr p L W hlen h 1 [o] A (by simpa [Pl.flat] using hA) 1 rfl h1 (by simp) (fun o2 ho => by rw [List.mem_singleton.1 ho]; exact hm) b hb
theorem give_row2 (o : Pl.Ob) (A : Array Value) (hA : A.toList = Pl.oc o) (h1 : 2 ≤ L.length) (hm : Pl.mayO o) (b : Nat) (hb : b = W.heap.size) :
    Calls Tryz.prog 24 #[.pointer (some ⟨p, 0, none⟩), .int .i64 2, .slice (some ⟨b, 0, none⟩) 1 1] (W.alloc (.cells A 25)) fun e w' => e = .returned (.int .i64 (Pl.giveR L 2 [o]).1) ∧ Stk W0 Pr p (Pl.giveR L 2 [o]).2 w' ∧ FrS W0 Pr W w' :=
  give_row W0 Pr p L W hlen h 2 [o] A (by simpa [Pl.flat] using hA) 1 rfl h1 (by simp) (fun o2 ho => by rw [List.mem_singleton.1 ho]; exact hm) b hb
theorem give_row12 (o o2 : Pl.Ob) (A : Array Value) (hA : A.toList = Pl.oc o ++ Pl.oc o2) (n : Nat) (h1 : n ≤ L.length) (hm : Pl.mayO o) (hm2 : Pl.mayO o2) (k : Int) (hk : k = (n : Int)) (b : Nat) (hb : b = W.heap.size) :
    Calls Tryz.prog 24 #[.pointer (some ⟨p, 0, none⟩), .int .i64 k, .slice (some ⟨b, 0, none⟩) 2 2] (W.alloc (.cells A 25)) fun e w' => e = .returned (.int .i64 (Pl.giveR L n [o, o2]).1) ∧ Stk W0 Pr p (Pl.giveR L n [o, o2]).2 w' ∧ FrS W0 Pr W w' := by
  subst hk
  exact give_row W0 Pr p L W hlen h n [o, o2] A (by simpa [Pl.flat] using hA) 2 rfl h1 (by simp) (fun o3 ho => by rcases List.mem_cons.1 ho with rfl | ho; exact hm; rw [List.mem_singleton.1 ho]; exact hm2) b hb
end
end Go.Proofs.YtfmmomdmemcbbaaGreat
