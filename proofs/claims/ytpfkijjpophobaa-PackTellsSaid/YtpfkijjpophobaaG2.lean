/- pack.head, fresh, number, numbered, lettered: the walks. -/
import Derived.Test.YtpfkijjpophobaaG1
import Derived.Laws.CopyOwn
import Derived.Laws.BitsAllLaws
import Derived.Laws.Bits128
namespace Go.Proofs.Ytpfkijjpophobaa
set_option linter.unusedVariables false
open Go.RowKit

def Pl.hd : List UInt8 := [244, 84, 80, 1]
/-- a row just built -/
theorem ownB_lit (W : World) (L : List UInt8) (hl : L.length ≤ 1000) (v : Value) (hv : v = .slice (some ⟨W.heap.size, 0, none⟩) L.length L.length) (base : Nat) (hb : base ≤ W.heap.size) : OwnB base v L (W.alloc (.cells (L.map Pl.u8).toArray 5)) :=
  .inr ⟨W.heap.size, L.length, _, (0, 0), hv, hb, heap_alloc_new W _, fun j _ q => by simp at q, Nat.le_refl _, by simp only [maxLen]; omega, by simp, by rw [List.take_of_length_le (by simp)]⟩
theorem one_row (W : World) (b : UInt8) (c : Int) (hc : Pl.u8 b = .int .u8 c) : RdB (.slice (some ⟨W.heap.size, 0, none⟩) 1 1) [b] (W.alloc (.cells #[.int .u8 c] 5)) := by
  have h := (ownB_lit W [b] (by simp) (.slice (some ⟨W.heap.size, 0, none⟩) 1 1) rfl W.heap.size (Nat.le_refl _)).rd
  rw [show ([b].map Pl.u8).toArray = #[.int .u8 c] by rw [List.map_cons, List.map_nil, hc]] at h
  exact h
theorem Pl.u8_of (n : Nat) (hn : n < 256) : Pl.u8 (UInt8.ofNat n) = .int .u8 (n : Int) := by unfold Pl.u8; rw [UInt8.toNat_ofNat', Nat.mod_eq_of_lt (by omega)]
theorem head_any (W : World) : Calls Try.prog 52 #[] W fun e w' => ∃ v, e = .returned v ∧ OwnB W.heap.size v Pl.hd w' ∧ Fr (fun _ => False) W w' := by
  go_enter Try.func52, Try.ntmps52
  go_wp2_with fail
  go_ret
  exact ⟨_, rfl, ownB_lit W Pl.hd (by decide) _ rfl _ (Nat.le_refl _), Fr.alloc _ _ _⟩
theorem numbered_any (k : Int) (W : World) : Calls Try.prog 53 #[.int .i64 k] W fun e w' => e = .returned (.bool (decide (k = 1 ∨ k = 2))) ∧ W = w' := by
  by_cases h1 : k = 1
  · subst h1
    go_enter Try.func53, Try.ntmps53
    go_wp2_with fail
    go_ret
    exact ⟨rfl, rfl⟩
  by_cases h2 : k = 2
  · subst h2
    go_enter Try.func53, Try.ntmps53
    go_wp2_with fail
    go_ret
    exact ⟨rfl, rfl⟩
  have b1 : (k == 1) = false := beq_eq_false_iff_ne.2 h1
  have b2 : (k == 2) = false := beq_eq_false_iff_ne.2 h2
  rw [decide_eq_false (show ¬ (k = 1 ∨ k = 2) by omega)]
  go_enter Try.func53, Try.ntmps53
  go_wp2_with fail
  go_ret
  exact ⟨rfl, rfl⟩
theorem lettered_any (k : Int) (W : World) : Calls Try.prog 55 #[.int .i64 k] W fun e w' => e = .returned (.bool (decide (3 ≤ k ∧ k ≤ 6))) ∧ W = w' := by
  go_enter Try.func55, Try.ntmps55
  go_wp2_with fail
  all_goals
    go_ret
    refine ⟨ret_bool ?_, rfl⟩
    first | (simp; done) | (simp; omega)
theorem make_nil (W : World) : (Instr.makeSlice 30 (.int .i64 0) (.int .i64 0)).run Try.prog W = .ok (.slice (some ⟨W.heap.size, 0, none⟩) 0 0) (W.alloc (.cells #[] 5)) := by
  obtain ⟨i, hi, hz0, hz1, hz2⟩ := info_parts Try.byteInfo
  have h := run_make (P := Try.prog) W 30 5 i (.int .u8 0) Try.underlying30 hi hz0 .i64 .i64 0 0 (by omega) (by omega) (by omega) (by omega)
  rw [h, hz1]
  simp [madeCells, Array.range_zero']
theorem copy_nil (W : World) (ty : TypeId) (a : Addr) : (Builtin.copy_ #[30, 30] ty #[.slice (some a) 0 0, .slice none 0 0]).run Try.prog W = .ok (goInt 0) W :=
  Go.run_copy_nil Try.prog W 30 30 ty 5 a 0 0 Try.underlying30 (by
    obtain ⟨i, hi, _⟩ := info_parts Try.byteInfo
    rw [hi]
    rfl)
theorem fresh_nil (W : World) : Calls Try.prog 71 #[.slice none 0 0] W fun e w' => ∃ v, e = .returned v ∧ OwnB W.heap.size v [] w' ∧ Fr (fun _ => False) W w' := by
  have km := make_nil
  have kc := copy_nil
  go_enter Try.func71, Try.ntmps71
  go_wp2_with fail
  go_ret
  exact ⟨_, rfl, ownB_lit W [] (by decide) _ rfl _ (Nat.le_refl _), Fr.alloc _ _ _⟩
/-- a number's bytes -/
def Pl.num7 (n : Nat) : List UInt8 := if n < 128 then [UInt8.ofNat n] else UInt8.ofNat (n % 128 + 128) :: Pl.num7 (n / 128)
termination_by n
decreasing_by omega
theorem Pl.num7_eq (n : Nat) : Pl.num7 n = if n < 128 then [UInt8.ofNat n] else UInt8.ofNat (n % 128 + 128) :: Pl.num7 (n / 128) := by
  rw [Pl.num7]
set_option maxRecDepth 100000 in
theorem number_any (n : Nat) (hn : n < 34359738368) (W : World) : Calls Try.prog 54 #[.slice none 0 0, .int .i64 (n : Int)] W fun e w' => ∃ v, e = .returned v ∧ OwnB W.heap.size v (Pl.num7 n) w' ∧ Fr (fun _ => False) W w' := by
  have CF := Lib.hid (fun Z => fresh_nil Z)
  go_enter Try.func54, Try.ntmps54
  go_wp2_with fail
  refine (CF.out _).mono ?_
  rintro e w1 ⟨v1, rfl, o1, f1⟩
  have O1 := Lib.hid o1
  have F1 := Lib.hid f1
  clear CF o1 f1
  go_wp2_with fail
  go_loopw [0, 1] (fun s0 s1 wr => ∃ (m : Nat) (L : List UInt8) (bv : Value), s1 = .int .i64 (m : Int) ∧ bv = s0 ∧ m ≤ n ∧ Hid (OwnB W.heap.size bv L wr) ∧ Hid (Pl.num7 n = L ++ Pl.num7 m) ∧ L.length + m ≤ n ∧ Hid (Fr (fun _ => False) W wr)) (fun _ s1 _ => (intOf s1).toNat)
  case atStart => exact ⟨n, [], _, rfl, rfl, by omega, O1, Lib.hid (by simp), by simp, F1⟩
  case round =>
    obtain ⟨m, L, s0, rfl, rfl, hm, HO, HN, hL, HF⟩ := hrel
    have HS := Lib.hid (Pl.num7_eq m)
    have hW : W.heap.size ≤ wr.heap.size := HF.out.2.2.1
    have HSL : Hid (∃ ao cap, s0 = .slice ao L.length cap) := Lib.hid (by obtain ⟨ao, cap, h, _⟩ := HO.out.rd; exact ⟨ao, cap, h⟩)
    have hL1 : L.length ≤ 34359738368 := by omega
    have HOW : Hid (∀ g, s0.ownBlock = some g → W.heap.size ≤ g) := Lib.hid (fun g h => (HO.out.from g h).1)
    by_cases h : m < 128
    · have hI : (m : Int) ≤ 127 := by omega
      have hw8 : (m : Int) % 256 = (m : Int) := by omega
      have HST : Hid (Pl.num7 m = [UInt8.ofNat m]) := Lib.hid (by rw [HS.out, if_pos h])
      obtain ⟨β, hβ⟩ : ∃ β, β = UInt8.ofNat m := ⟨_, rfl⟩
      have HB := Lib.hid (one_row wr β (m : Int) (by rw [hβ]; exact Pl.u8_of m (by omega)))
      rw [← hβ] at HST
      have HA : Hid (OwnB W.heap.size s0 L (wr.alloc (.cells #[.int .u8 (m : Int)] 5))) := Lib.hid (HO.out.fr (Fr.alloc (fun _ => False) wr _) (fun _ _ f => f))
      clear HS hβ
      go_wp2_with (at_builtin; refine wpList_appB _ W.heap.size s0 L HA.out _ [β] 30 (.inl rfl) (src_slice HB.out) (by simp; omega) (by simp; omega) (hgd := rfl) (.tmp 18) (.tmp 21) rfl (by simp [Act.eval]) (by simp [Act.eval]) ?_)
      intro v' w' o2 g2 hg2
      go_wp2_with fail
      go_ret
      refine ⟨v', rfl, ?_, ?_⟩
      · rw [HN.out, HST.out]
        exact o2
      · exact (HF.out.trans (Fr.alloc _ _ _)).trans' (Fr.grown (fun k => s0.ownBlock = some k) g2 (fun k hk => hk)) (fun k hk => .inr (HOW.out k hk))
    · have hI : ¬ (m : Int) ≤ 127 := by omega
      have hq : (m : Int) / 128 = ((m / 128 : Nat) : Int) := by omega
      have hHST : Hid (Pl.num7 m = [UInt8.ofNat (m % 128 + 128)] ++ Pl.num7 (m / 128)) := Lib.hid (by rw [HS.out, if_neg h]; rfl)
      have ha : bits .and .i64 (m : Int) 127 = ((m % 128 : Nat) : Int) := by rw [i64_and127]; omega
      obtain ⟨x, hx⟩ : ∃ x, x = m % 128 := ⟨_, rfl⟩
      have hx1 : x < 128 := by omega
      rw [← hx] at ha hHST
      have ho : bits .or .i64 (x : Int) 128 = (x : Int) + 128 := by
        have hc : bits .or .i64 (x : Int) 128 = bits .or .i64 128 (x : Int) := by simp only [bits, BitVec.or_comm]
        rw [hc, bits_join .i64 63 (by decide) (fun n h0 h1 => by rw [IntKind.wrap_i64]; omega) 7 128 (x : Int) (by decide) (by decide) (by decide) (by omega) (by omega) (by omega)]
        omega
      have hw8 : ((x : Int) + 128) % 256 = (x : Int) + 128 := by omega
      have hxI : (x : Int) ≤ 127 := by omega
      obtain ⟨β, hβ⟩ : ∃ β, β = UInt8.ofNat (x + 128) := ⟨_, rfl⟩
      have HB := Lib.hid (one_row wr β ((x : Int) + 128) (by rw [hβ, Pl.u8_of (x + 128) (by omega)]; rfl))
      rw [← hβ] at hHST
      have HA : Hid (OwnB W.heap.size s0 L (wr.alloc (.cells #[.int .u8 ((x : Int) + 128)] 5))) := Lib.hid (HO.out.fr (Fr.alloc (fun _ => False) wr _) (fun _ _ f => f))
      have hlt : m / 128 < m := by omega
      obtain ⟨y, hy⟩ : ∃ y, y = m / 128 := ⟨_, rfl⟩
      rw [← hy] at hq hHST hlt
      clear HS hβ hx hy h
      go_wp2_with (at_builtin; refine wpList_appB _ W.heap.size s0 L HA.out _ [β] 30 (.inl rfl) (src_slice HB.out) (by simp; omega) (by simp; omega) (hgd := rfl) (.tmp 9) (.tmp 14) rfl (by simp [Act.eval]) (by simp [Act.eval]) ?_)
      intro v' w' o2 g2 hg2
      go_wp2_with fail
      refine ⟨⟨y, L ++ [β], _, by rw [← hq], rfl, by omega, Lib.hid o2, Lib.hid (by rw [HN.out, hHST.out, List.append_assoc]), by simp; omega, ?_⟩, by simp [intOf]; omega⟩
      exact Lib.hid ((HF.out.trans (Fr.alloc _ _ _)).trans' (Fr.grown (fun k => s0.ownBlock = some k) g2 (fun k hk => hk)) (fun k hk => .inr (HOW.out k hk)))
end Go.Proofs.Ytpfkijjpophobaa
