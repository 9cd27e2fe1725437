/- ArithBelow: the walk. -/
import Derived.Test.YtfmmomdmemcbbaaTw
import Derived.Test.YtfmmomdmemcbbaaPB
import Derived.Deep.QuietTactic
import Derived.Deep.Cut
namespace Go.Proofs.Ytfmmomdmemcbbaa
set_option linter.unusedVariables false
open Go.RowKit

/-- the i-th save -/
def Pl.saveO (i : Int) : Pl.Ob := (11, false, i, 0, 0, ⟨#[]⟩)
def Pl.saves (n : Nat) : List Pl.Ob := (List.range n).map fun (i : Nat) => Pl.saveO ((i : Int) + 1)
theorem Pl.saves_len (n : Nat) : (Pl.saves n).length = n := by simp [Pl.saves]
theorem Pl.saves_succ (n : Nat) : Pl.saves (n + 1) = Pl.saves n ++ [Pl.saveO ((n : Int) + 1)] := by simp [Pl.saves, List.range_succ]
theorem Pl.saves_mem {n : Nat} {o : Pl.Ob} (h : o ∈ Pl.saves n) : ∃ i : Int, 1 ≤ i ∧ i ≤ n ∧ o = Pl.saveO i := by
  simp only [Pl.saves, List.mem_map, List.mem_range] at h
  obtain ⟨i, hi, rfl⟩ := h
  exact ⟨_, by omega, by omega, rfl⟩
theorem Pl.may_save {i : Int} (h1 : 1 ≤ i) (h2 : i ≤ 50) : Pl.mayO (Pl.saveO i) := by
  unfold Pl.mayO Pl.may Pl.saveO Pl.bare
  simp only
  exact .inr (.inr (.inr ⟨by simp, .inr (.inr (.inr (.inr (.inr ⟨by first | rfl | trivial, h1, by omega⟩))))⟩))
theorem word_six : Pl.opWord (rangedText Try.f31) 6 = ⟨#[99, 108, 101, 97, 114]⟩ := by decide +kernel
theorem word_seven : Pl.opWord (rangedText Try.f31) 7 = ⟨#[99, 111, 117, 110, 116]⟩ := by decide +kernel
theorem word_other : ∀ k : Fin 39, k.val ≠ 0 → k.val ≠ 6 → k.val ≠ 7 → Pl.opWord (rangedText Try.f31) (k.val : Int) ≠ ⟨#[99, 108, 101, 97, 114]⟩ ∧ Pl.opWord (rangedText Try.f31) (k.val : Int) ≠ ⟨#[99, 111, 117, 110, 116]⟩ := by decide +kernel
theorem word_far (k : Int) (h1 : 1 ≤ k) (h2 : k ≤ 38) (h6 : k ≠ 6) (h7 : k ≠ 7) : Pl.opWord (rangedText Try.f31) k ≠ ⟨#[99, 108, 101, 97, 114]⟩ ∧ Pl.opWord (rangedText Try.f31) k ≠ ⟨#[99, 111, 117, 110, 116]⟩ := by
  have := word_other ⟨k.toNat, by omega⟩ (by simp; omega) (by simp; omega) (by simp; omega)
  simp only [show ((k.toNat : Nat) : Int) = k by omega] at this
  exact this
theorem may_all (A : List Pl.Ob) : (∀ o ∈ A, Pl.mayO o) ∨ ∃ (j : Nat) (o : Pl.Ob), A[j]? = some o ∧ ¬ Pl.mayO o := by
  by_cases h : ∀ o ∈ A, Pl.mayO o
  · exact .inl h
  · simp only [Classical.not_forall] at h
    obtain ⟨o, ho, hm⟩ := h
    obtain ⟨j, hj, e⟩ := List.getElem_of_mem ho
    exact .inr ⟨j, o, by rw [List.getElem?_eq_getElem hj, e], hm⟩
/- THE WALKS -/
theorem word_list {W : ByteArray} {l : List UInt8} (h : W ≠ ⟨l.toArray⟩) : ¬ W.toList = l := fun e => h (by
  rw [ByteArray.toList_eq] at e
  obtain ⟨d⟩ := W
  simp at e
  subst e
  simp)
set_option maxHeartbeats 8000000 in
set_option maxRecDepth 100000 in
theorem below_long (v0 : Value) (A : List Pl.Ob) (b n : Int) (w : World) (hA : RowV w v0 A) (hb : 0 ≤ b ∧ b ≤ 255) (hn : 0 ≤ n ∧ n ≤ 255) (m k d : Int) (hm : n % 38 = m) (hk : 1 + m = k) (hd : b % 50 = d) (hN : 20 < A.length ∧ A.length ≤ maxLen) :
    Calls Try.prog 8 #[v0, .int .u8 b, .int .u8 n] w fun en w' => en = .returned (.bool true) ∧ Kept w w' := by
  have bm : 0 ≤ m ∧ m ≤ 37 := by omega
  have bd : 0 ≤ d ∧ d ≤ 49 := by omega
  have K := Lib.hid known18
  obtain ⟨ao, cap, rfl, _⟩ := hA
  obtain ⟨N, hNN⟩ : ∃ N, N = A.length := ⟨_, rfl⟩
  rw [← hNN] at hN ⊢
  have e1 : (20 : Int) < (N : Int) := by omega
  clear hNN
  go_enter Try.func8, Try.ntmps8
  go_wp2_with fail
  refine (K.out _).mono ?_
  rintro en w0 ⟨rfl, f0⟩
  have F0 := Lib.hid f0
  clear f0 K
  go_wp2_with fail
  go_ret
  exact ⟨rfl, Kept.of_fr F0.out⟩
set_option maxHeartbeats 8000000 in
set_option maxRecDepth 100000 in
theorem below_six (v0 : Value) (A : List Pl.Ob) (b n : Int) (w : World) (hA : RowV w v0 A) (hb : 0 ≤ b ∧ b ≤ 255) (hn : 0 ≤ n ∧ n ≤ 255) (m k d : Int) (hm : n % 38 = m) (hk : 1 + m = k) (hd : b % 50 = d) (hN : A.length ≤ 20) (hk6 : k = 6) :
    Calls Try.prog 8 #[v0, .int .u8 b, .int .u8 n] w fun en w' => en = .returned (.bool true) ∧ Kept w w' := by
  have bm : 0 ≤ m ∧ m ≤ 37 := by omega
  have bd : 0 ≤ d ∧ d ≤ 49 := by omega
  have K := Lib.hid known18
  obtain ⟨ao, cap, rfl, _⟩ := hA
  obtain ⟨N, hNN⟩ : ∃ N, N = A.length := ⟨_, rfl⟩
  rw [← hNN] at hN ⊢
  have e1 : (N : Int) ≤ 20 := by omega
  clear hNN hN
  have NM := Lib.hid (fun Z => name_any _ Pl.opT_is 6 Z)
  rw [word_six] at NM
  subst hk6
  go_enter Try.func8, Try.ntmps8
  go_wp2_with fail
  refine (K.out _).mono ?_
  rintro en w0 ⟨rfl, f0⟩
  have F0 := Lib.hid f0
  clear f0 K
  go_wp2_with fail
  refine (NM.out _).mono ?_
  rintro en w1 ⟨rfl, g1⟩
  go_wp2_with fail
  go_ret
  exact ⟨rfl, Kept.of_fr (F0.out.trans (Fr.of_grown _ g1))⟩
set_option maxHeartbeats 8000000 in
set_option maxRecDepth 100000 in
theorem below_seven (v0 : Value) (A : List Pl.Ob) (b n : Int) (w : World) (hA : RowV w v0 A) (hb : 0 ≤ b ∧ b ≤ 255) (hn : 0 ≤ n ∧ n ≤ 255) (m k d : Int) (hm : n % 38 = m) (hk : 1 + m = k) (hd : b % 50 = d) (hN : A.length ≤ 20) (hk6 : k = 7) :
    Calls Try.prog 8 #[v0, .int .u8 b, .int .u8 n] w fun en w' => en = .returned (.bool true) ∧ Kept w w' := by
  have bm : 0 ≤ m ∧ m ≤ 37 := by omega
  have bd : 0 ≤ d ∧ d ≤ 49 := by omega
  have K := Lib.hid known18
  obtain ⟨ao, cap, rfl, _⟩ := hA
  obtain ⟨N, hNN⟩ : ∃ N, N = A.length := ⟨_, rfl⟩
  rw [← hNN] at hN ⊢
  have e1 : (N : Int) ≤ 20 := by omega
  clear hNN hN
  have NM := Lib.hid (fun Z => name_any _ Pl.opT_is 7 Z)
  rw [word_seven] at NM
  subst hk6
  go_enter Try.func8, Try.ntmps8
  go_wp2_with fail
  refine (K.out _).mono ?_
  rintro en w0 ⟨rfl, f0⟩
  have F0 := Lib.hid f0
  clear f0 K
  go_wp2_with fail
  refine (NM.out _).mono ?_
  rintro en w1 ⟨rfl, g1⟩
  go_wp2_with fail
  go_ret
  exact ⟨rfl, Kept.of_fr (F0.out.trans (Fr.of_grown _ g1))⟩
set_option maxHeartbeats 8000000 in
set_option maxRecDepth 100000 in
theorem below_main (v0 : Value) (A : List Pl.Ob) (b n : Int) (w : World) (hA : RowV w v0 A) (hb : 0 ≤ b ∧ b ≤ 255) (hn : 0 ≤ n ∧ n ≤ 255) (m k d : Int) (hm : n % 38 = m) (hk : 1 + m = k) (hd : b % 50 = d) (hN : A.length ≤ 20) (h6 : k ≠ 6) (h7 : k ≠ 7) :
    Calls Try.prog 8 #[v0, .int .u8 b, .int .u8 n] w fun en w' => en = .returned (.bool true) ∧ Kept w w' := by
  have bm : 0 ≤ m ∧ m ≤ 37 := by omega
  have bd : 0 ≤ d ∧ d ≤ 49 := by omega
  have K := Lib.hid known18
  obtain ⟨ao, cap, rfl, _⟩ := id hA
  have HA := Lib.hid hA
  obtain ⟨N, hNN⟩ : ∃ N, N = A.length := ⟨_, rfl⟩
  rw [← hNN] at hN ⊢
  have e1 : (N : Int) ≤ 20 := by omega
  have HN := Lib.hid (And.intro hNN hN)
  have HS := Lib.hid (And.intro h6 h7)
  have NM := Lib.hid (fun Z => name_any _ Pl.opT_is k Z)
  obtain ⟨q6, q7⟩ := word_far k (by omega) (by omega) h6 h7
  generalize Pl.opWord (rangedText Try.f31) k = WD at NM q6 q7
  have q6p := word_list q6
  have q7p := word_list q7
  have q6' : (WD.toList == [99, 108, 101, 97, 114]) = false := beq_eq_false_iff_ne.2 q6p
  have q7' : (WD.toList == [99, 111, 117, 110, 116]) = false := beq_eq_false_iff_ne.2 q7p
  clear q6 q7
  have CN := Lib.hid (fun Z (h : Kept w Z) => (stk_new w (fun _ => False) Z h (fun _ f => f.elim)).mono fun e w' hh => (⟨_, hh.1, hh.2.1.keptw, two_of hh.2.1⟩ : ∃ p, e = .returned (.pointer (some ⟨p, 0, none⟩)) ∧ Kept w w' ∧ ∃ Q : Nat → Prop, (∀ c, Q c → c < w'.heap.size) ∧ ∀ q M W', Stk w Q q M W' → FrS w Q w' W' → Two w (fun _ => False) p [] q M W' ∧ FrS w (fun _ => False) w' W'))
  clear hA hNN hN h6 h7
  go_enter Try.func8, Try.ntmps8
  go_wp2_with fail
  refine (K.out _).mono ?_
  rintro en w0 ⟨rfl, f0⟩
  have F0 := Lib.hid f0
  clear f0 K
  go_wp2_with fail
  refine (NM.out _).mono ?_
  rintro en w1 ⟨rfl, g1⟩
  have F1 := Lib.hid (F0.out.trans (Fr.of_grown _ g1))
  clear g1 F0 NM
  go_wp2_with fail
  refine (CN.out _ (Kept.of_fr F1.out)).mono ?_
  rintro en w2 ⟨p, rfl, hk2, Q0, hQ0, hT0⟩
  have C3 := Lib.hid ((stk_new w Q0 w2 hk2 hQ0).mono fun e w' hh => (⟨_, hh.1, (hT0 _ _ _ hh.2.1 hh.2.2).1⟩ : ∃ q, e = .returned (.pointer (some ⟨q, 0, none⟩)) ∧ Two w (fun _ => False) p [] q [] w'))
  clear hQ0 hT0 hk2 CN F1
  go_wp2_with fail
  refine C3.out.mono ?_
  rintro en w3 ⟨q, rfl, t3⟩
  have T3 := Lib.hid t3
  clear t3 C3 q6p q7p q6' q7'
  go_wp2_with fail
  go_loopw [11, 12] (fun dv iv wz => ∃ i : Int, iv = .int .i64 i ∧ (0 ≤ i ∧ i ≤ d) ∧ Hid (wz.ownsRow w3.heap.size 24 6 dv (Pl.saves i.toNat).length (Pl.flat (Pl.saves i.toNat)) ∧ Fr (fun _ => False) w3 wz)) (fun _ i _ => (d - intOf i).toNat)
  case atStart => exact ⟨0, rfl, by omega, Lib.hid ⟨World.ownsRow_nil _ _ _ _, Fr.refl _ _⟩⟩
  case round =>
    obtain ⟨i, rfl, ⟨hi0, hi1⟩, HO⟩ := hrel
    rename World => wz
    by_cases hlt : i < d
    · have HRN := Lib.hid (row_new wz [Pl.saveO (i + 1)] #[.int .i64 11, .bool false, .int .i64 (i + 1), .int .i64 0, .int .i64 0, .string ⟨#[]⟩] rfl 1 rfl)
      have HAO := Lib.hid (own_fr HO.out.1 (Fr.alloc (fun _ => False) wz (.cells #[.int .i64 11, .bool false, .int .i64 (i + 1), .int .i64 0, .int .i64 0, .string ⟨#[]⟩] 24)) (fun _ _ f => f))
      have FZ := Lib.hid (HO.out.2.trans (Fr.alloc (fun _ => False) wz (.cells #[.int .i64 11, .bool false, .int .i64 (i + 1), .int .i64 0, .int .i64 0, .string ⟨#[]⟩] 24)))
      clear HO
      go_wp2_with (at_builtin; refine append_obs _ w3.heap.size u11 (Pl.saves i.toNat) [Pl.saveO (i + 1)] HAO.out (some ⟨wz.heap.size, 0, none⟩) 1 1 rfl HRN.out (by rw [Pl.saves_len]; simp; omega) FZ.out.2.2.1 (by rfl) (.tmp 42) (.tmp 46) rfl (by simp [Act.eval]) (by simp [Act.eval]) ?_)
      intro v' w6 o6 f6
      have FIN := Lib.hid (show w6.ownsRow w3.heap.size 24 6 v' (Pl.saves (i + 1).toNat).length (Pl.flat (Pl.saves (i + 1).toNat)) ∧ Fr (fun _ => False) w3 w6 from ⟨by rw [show (i + 1).toNat = i.toNat + 1 by omega, Pl.saves_succ, show ((i.toNat : Nat) : Int) = i by omega, List.length_append]; exact o6, FZ.out.trans' f6 (fun k hk => .inr (own_base HAO.out k hk))⟩)
      clear o6 f6 HAO HRN FZ
      go_wp2_with fail
      refine ⟨?_, by simp [intOf]; omega⟩
      repeat (refine Exists.intro (α := Value) _ ?_)
      first
        | exact ⟨i + 1, by simp, by omega, FIN⟩
        | (refine ⟨⟨i + 1, by simp, by omega, FIN⟩, ?_⟩
           repeat (first | exact rfl | refine ⟨rfl, ?_⟩))
    · obtain ⟨D, hD⟩ : ∃ D, D = Pl.saves i.toNat := ⟨_, rfl⟩
      have DM : Hid (∀ o ∈ D, Pl.mayO o) := Lib.hid (fun o ho => by
        rw [hD] at ho
        obtain ⟨j, h1, h2, rfl⟩ := Pl.saves_mem ho
        exact Pl.may_save h1 (by omega))
      have D6 : Hid (∀ o ∈ D, (o.1 == 6) = false) := Lib.hid (fun o ho => by
        rw [hD] at ho
        obtain ⟨j, h1, h2, rfl⟩ := Pl.saves_mem ho
        rfl)
      obtain ⟨dN, hdN⟩ : ∃ dN, dN = D.length := ⟨_, rfl⟩
      have HD : Hid (dN = D.length ∧ dN ≤ 49) := Lib.hid ⟨hdN, by rw [hdN, hD, Pl.saves_len]; omega⟩
      have hO : wz.ownsRow w3.heap.size 24 6 u11 dN (Pl.flat D) := by rw [hdN, hD]; exact HO.out.1
      obtain ⟨ad, cd, hdv⟩ := own_slice hO
      subst hdv
      have OD := Lib.hid hO
      have T4 := Lib.hid (Two.guard T3.out HO.out.2 (Q := fun c => (Value.slice ad dN cd).ownBlock = some c) (fun c hc => .inr (own_base OD.out c hc)) (fun c hc => own_lt OD.out c hc))
      have RA : Hid (RowV wz (.slice ao N cap) A) := Lib.hid (by
        have := HA.out.kept0 T4.out.keptw
        rw [← HN.out.1] at this
        exact this)
      have OD := Lib.hid (own_weaken OD.out T3.out.keptw.2.2)
      clear HO hO hD hdN T3
      rcases may_all A with hall | ⟨j, o, hj, ho⟩
      · have C1 := Lib.hid (two_become T4.out (.slice ao N cap) A RA.out (fun j o hj => hall o (List.mem_of_getElem? hj)) (by have := HN.out; omega))
        go_wp2_with fail
        refine C1.out.mono ?_
        rintro en w5 ⟨rfl, t5, f5⟩
        have T5 := Lib.hid t5
        have O5 := Lib.hid (own_fr OD.out f5 (fun g hg a => a.1 hg))
        have R5 : Hid (RowV w5 (.slice ad dN cd) D) := Lib.hid (own_row (base := w.heap.size) (by have := O5.out; rw [HD.out.1] at this ⊢; exact this))
        clear t5 f5 C1 T4 RA OD
        go_wp2_with (at_builtin; refine append_obs _ w5.heap.size (.slice none 0 0) [] D (World.ownsRow_nil _ _ _ _) ad dN cd HD.out.1 R5.out (by have := HD.out; simp; omega) (Nat.le_refl _) (by rfl) (.const (.slice none 0 0)) (.tmp 54) rfl (by simp [Act.eval]) (by simp [Act.eval]) ?_)
        intro v6 w6 o6 f6
        have F6 : Hid (Fr (fun _ => False) w5 w6) := Lib.hid (f6.weaken (fun k q => by cases q))
        have O6 : Hid (w6.ownsRow w5.heap.size 24 6 v6 D.length (Pl.flat D)) := Lib.hid o6
        have R6 : Hid (RowV w6 (.slice ao N cap) A) := Lib.hid (by
          have := HA.out.kept0 (T5.out.fresh F6.out).keptw
          rw [← HN.out.1] at this
          exact this)
        clear o6 f6 R5
        go_wp2_with (at_builtin; refine append_obs _ w5.heap.size v6 D A O6.out ao N cap HN.out.1 R6.out (by have := HD.out; have := HN.out; omega) F6.out.2.2.1 (by rfl) (.tmp 55) (.tmp 56) rfl (by simp [Act.eval]) (by simp [Act.eval]) ?_)
        intro v7 w7 o7 f7
        have F7 : Hid (Fr (fun _ => False) w5 w7) := Lib.hid (F6.out.trans' f7 (fun k hk => .inr (own_base O6.out k hk)))
        have C2 := Lib.hid (two_become (T5.out.fresh F7.out).swap v7 (D ++ A) (own_row (base := w5.heap.size) (by rw [List.length_append]; exact o7)) (fun j o hj => (List.mem_append.1 (List.mem_of_getElem? hj)).elim (DM.out o) (hall o)) (by have := HD.out; have := HN.out; rw [List.length_append]; omega))
        clear o7 f7 R6 O6 F6
        go_wp2_with fail
        refine C2.out.mono ?_
        rintro en w8 ⟨rfl, t8, f8⟩
        have O8 := Lib.hid (own_fr (own_fr O5.out F7.out (fun _ _ f => f)) f8 (fun g hg a => a.1 hg))
        have T8 := Lib.hid t8.swap
        have C3 := Lib.hid (two_items T8.out (by have := HN.out; omega))
        clear t8 f8 C2 T5 O5 F7
        go_wp2_with fail
        refine C3.out.mono ?_
        rintro en w9 ⟨vi, rfl, o9, f9⟩
        rw [← HN.out.1] at o9
        obtain ⟨ai, ci, rfl⟩ := own_slice o9
        have W9 := Lib.hid o9
        have O9 := Lib.hid (own_fr O8.out f9 (fun _ _ f => f))
        have T9 := Lib.hid (Two.guard T8.out f9 (Q := fun c => (Value.slice ad dN cd).ownBlock = some c ∨ (Value.slice ai N ci).ownBlock = some c) (fun c hc => hc.imp id (fun h => own_base W9.out c h)) (fun c hc => hc.elim (fun h => own_lt O9.out c h) (fun h => own_lt W9.out c h)))
        have C4 := Lib.hid (two_do T9.out (by have := HN.out; omega) hall k)
        clear o9 f9 T8 O8 C3
        have HR : Hid (∃ eA rA eT rT, Pl.doR A k = (eA, rA) ∧ Pl.doR (D ++ A) k = (eT, rT)) := Lib.hid ⟨_, _, _, _, rfl, rfl⟩
        obtain ⟨eA, rA, eT, rT, hRA, hRT⟩ := HR.out
        have LA : Hid (rA.length ≤ 200 ∧ rT.length ≤ 200) := Lib.hid (by
          have h1 := Pl.doR_len A k (by have := HN.out; omega)
          have h2 := Pl.doR_len (D ++ A) k (by have := HD.out; have := HN.out; rw [List.length_append]; omega)
          rw [hRA] at h1
          rw [hRT] at h2
          exact ⟨h1, h2⟩)
        have hway : (eA = 0 ∧ eT = 0 ∧ rT = D ++ rA) ∨ ((eA ≠ 0 ∧ rA = A) ∧ ((eT ≠ 0 ∧ rT = D ++ A) ∨ (eA = 7 ∧ eT = 0))) := by
          have s1 := Pl.doR_sim D A (by have := HD.out; omega) (by have := HN.out; omega) k HS.out.1 HS.out.2 D6.out
          have s2 := Pl.doR_safe A k
          have s3 := Pl.doR_safe (D ++ A) k
          rw [hRA, hRT] at s1
          rw [hRA] at s2
          rw [hRT] at s3
          by_cases h0 : eA = 0
          · have := s1.1 h0
            injection this with t1 t2
            exact .inl ⟨h0, t1, t2⟩
          · refine .inr ⟨⟨h0, s2 h0⟩, ?_⟩
            by_cases h1 : eT = 0
            · exact .inr ⟨(s1.2 h0).resolve_right (fun q => q h1), h1⟩
            · exact .inl ⟨h1, s3 h1⟩
        have C5 := Lib.hid (fun Z (h : Two w (fun c => (Value.slice ad dN cd).ownBlock = some c ∨ (Value.slice ai N ci).ownBlock = some c) q (D ++ A) p rA Z) => two_do h (by have := HD.out; have := HN.out; rw [List.length_append]; omega) (fun o ho => (List.mem_append.1 ho).elim (DM.out o) (hall o)) k)
        rw [hRA] at C4
        rw [hRT] at C5
        clear hRA hRT HR hall HS D6 DM HA
        go_wp2_with fail
        refine C4.out.mono ?_
        rintro en w10 ⟨rfl, t10, f10⟩
        have T10 := Lib.hid t10.swap
        have F10 := Lib.hid f10
        clear t10 f10 C4 T9
        go_wp2_with fail
        refine (C5.out _ T10.out).mono ?_
        rintro en w11 ⟨rfl, t11, f11⟩
        have T11 := Lib.hid t11
        have O11 := Lib.hid (own_fr (own_fr O9.out F10.out (fun g hg a => a.1 (.inl hg))) f11 (fun g hg a => a.1 (.inl hg)))
        have W11 := Lib.hid (own_fr (own_fr W9.out F10.out (fun g hg a => a.1 (.inr hg))) f11 (fun g hg a => a.1 (.inr hg)))
        clear t11 f11 C5 T10 F10 O9 W9
        have SM : Hid (∀ Z v1 v2 L, L.length ≤ 600 → RowV Z v1 L → RowV Z v2 L → Calls Try.prog 12 #[v1, v2] Z fun e w' => e = .returned (.bool true) ∧ Grown Z w') := Lib.hid (fun Z v1 v2 L hl h1 h2 => same_yes v1 v2 L hl Z h1 h2)
        rcases hway with ⟨rfl, rfl, rfl⟩ | ⟨⟨hA0, rfl⟩, hway⟩
        · have C6 := Lib.hid (two_items T11.out (by have := LA.out; omega))
          go_wp2_with fail
          refine C6.out.mono ?_
          rintro en w12 ⟨vt, rfl, o12, f12⟩
          have C7 := Lib.hid (two_items (T11.out.fresh f12).swap (by have := LA.out; omega))
          have O12 := Lib.hid o12
          have F12 := Lib.hid f12
          clear o12 f12 C6
          go_wp2_with fail
          refine C7.out.mono ?_
          rintro en w13 ⟨vs, rfl, o13, f13⟩
          obtain ⟨rN, hrN⟩ : ∃ rN, rN = rA.length := ⟨_, rfl⟩
          have R13 : Hid (RowV w13 vs rA) := Lib.hid (own_row o13)
          rw [← hrN] at o13
          obtain ⟨sa, sc, rfl⟩ := own_slice o13
          have HRN := Lib.hid hrN
          have O13 := Lib.hid (own_fr (own_fr O11.out F12.out (fun _ _ f => f)) f13 (fun _ _ f => f))
          have V13 := Lib.hid (own_fr O12.out f13 (fun _ _ f => f))
          have HNE : Hid (∀ g, vt.ownBlock = some g → ¬ (Value.slice ad dN cd).ownBlock = some g) := Lib.hid (fun g h1 h2 => by have := own_base O12.out g h1; have := own_lt O11.out g h2; omega)
          have KF := Lib.hid ((T11.out.fresh F12.out).fresh f13).keptw
          clear o13 f13 C7 O11 O12 F12 T11 W11 hrN
          go_wp2_with (at_builtin; refine append_obs _ w.heap.size (.slice ad dN cd) D rA (by have := O13.out; rw [HD.out.1] at this ⊢; exact this) sa rN sc HRN.out R13.out (by have := HD.out; have := LA.out; omega) KF.out.2.2 (by rfl) (.tmp 96) (.tmp 98) rfl (by simp [Act.eval]) (by simp [Act.eval]) ?_)
          intro v14 w14 o14 f14
          have R14 : Hid (RowV w14 v14 (D ++ rA)) := Lib.hid (own_row (base := w.heap.size) (by rw [List.length_append]; exact o14))
          have V14 : Hid (RowV w14 vt (D ++ rA)) := Lib.hid (own_row (own_fr V13.out f14 (fun g h1 h2 => HNE.out g h1 h2)))
          have KG := Lib.hid (KF.out.fr f14 (fun c hc => own_base O13.out c hc))
          clear o14 f14 O13 V13 HNE KF R13
          go_wp2_with fail
          refine (SM.out _ _ _ _ (by have := LA.out; omega) V14.out R14.out).mono ?_
          rintro en w15 ⟨rfl, g15⟩
          have KH := Lib.hid (KG.out.trans (Kept.of_grown g15))
          clear g15 KG V14 R14
          go_wp2_with fail
          go_ret
          exact ⟨rfl, KH.out⟩
        · have a1 : (eA == 0) = false := beq_eq_false_iff_ne.2 hA0
          have a2 : (eA != 0) = true := bne_iff_ne.2 hA0
          have C6 := Lib.hid (two_items T11.out.swap (by have := HN.out; omega))
          go_wp2_with fail
          refine C6.out.mono ?_
          rintro en w12 ⟨vs, rfl, o12, f12⟩
          have T12 := Lib.hid (T11.out.fresh f12)
          have O12 := Lib.hid (own_fr O11.out f12 (fun _ _ f => f))
          have W12 : Hid (RowV w12 (.slice ai N ci) rA) := Lib.hid (own_row (by have := own_fr W11.out f12 (fun _ _ f => f); rw [HN.out.1] at this ⊢; exact this))
          have V12 : Hid (RowV w12 vs rA) := Lib.hid (own_row o12)
          clear o12 f12 C6 T11 O11 W11
          go_wp2_with fail
          refine (SM.out _ _ _ _ (by have := HN.out; omega) V12.out W12.out).mono ?_
          rintro en w13 ⟨rfl, g13⟩
          have T13 := Lib.hid (T12.out.grown g13)
          have O13 := Lib.hid (own_fr (P := fun _ => False) O12.out (Fr.of_grown _ g13) (fun _ _ f => f))
          have W13 := Lib.hid (W12.out.grown g13)
          clear g13 T12 O12 W12 V12
          rcases hway with ⟨hT0, rfl⟩ | ⟨rfl, rfl⟩
          · have b1 : (eT == 0) = false := beq_eq_false_iff_ne.2 hT0
            have b2 : (eT != 0) = true := bne_iff_ne.2 hT0
            have C7 := Lib.hid (two_items T13.out (by have := LA.out; omega))
            go_wp2_with fail
            refine C7.out.mono ?_
            rintro en w14 ⟨vt, rfl, o14, f14⟩
            have HNE : Hid (∀ g, vt.ownBlock = some g → ¬ (Value.slice ad dN cd).ownBlock = some g) := Lib.hid (fun g h1 h2 => by have := own_base o14 g h1; have := own_lt O13.out g h2; omega)
            have O14 := Lib.hid (own_fr O13.out f14 (fun _ _ f => f))
            have V14 := Lib.hid o14
            have W14 := Lib.hid (W13.out.fr0 f14)
            have KF := Lib.hid (T13.out.fresh f14).keptw
            clear o14 f14 C7 O13 W13 T13
            go_wp2_with (at_builtin; refine append_obs _ w.heap.size (.slice ad dN cd) D rA (by have := O14.out; rw [HD.out.1] at this ⊢; exact this) ai N ci HN.out.1 W14.out (by have := HD.out; have := HN.out; omega) KF.out.2.2 (by rfl) (.tmp 81) (.tmp 82) rfl (by simp [Act.eval]) (by simp [Act.eval]) ?_)
            intro v15 w15 o15 f15
            have R15 : Hid (RowV w15 v15 (D ++ rA)) := Lib.hid (own_row (base := w.heap.size) (by rw [List.length_append]; exact o15))
            have V15 : Hid (RowV w15 vt (D ++ rA)) := Lib.hid (own_row (own_fr V14.out f15 (fun g h1 h2 => HNE.out g h1 h2)))
            have KG := Lib.hid (KF.out.fr f15 (fun c hc => own_base O14.out c hc))
            clear o15 f15 O14 V14 HNE KF W14
            go_wp2_with fail
            refine (SM.out _ _ _ _ (by have := LA.out; omega) V15.out R15.out).mono ?_
            rintro en w16 ⟨rfl, g16⟩
            have KH := Lib.hid (KG.out.trans (Kept.of_grown g16))
            clear g16 KG V15 R15
            go_wp2_with fail
            go_ret
            exact ⟨rfl, KH.out⟩
          · have KF := Lib.hid T13.out.keptw
            clear T13 O13 W13
            go_wp2_with fail
            go_ret
            exact ⟨rfl, KF.out⟩
      · have CB := Lib.hid (two_become_bad T4.out (.slice ao N cap) A RA.out (by have := HN.out; omega) j o hj ho)
        clear hj ho
        go_wp2_with fail
        refine CB.out.mono ?_
        rintro en w5 ⟨rfl, t5, _⟩
        have KF := Lib.hid t5.keptw
        clear t5 CB
        go_wp2_with fail
        go_ret
        exact ⟨rfl, KF.out⟩
theorem law_ArithBelow (v0 : Value) (A : List Pl.Ob) (b n : Int) (w : World) (h0 : RowV w v0 A ∧ A.length ≤ maxLen) (w1 : (Lit.int .u8 b).wf = true) (w2 : (Lit.int .u8 n).wf = true) :
    Calls Try.prog 8 #[v0, .int .u8 b, .int .u8 n] w fun en w' => en = .returned (.bool true) ∧ Kept w w' := by
  have hb : 0 ≤ b ∧ b ≤ 255 := by simp [Lit.wf, IntKind.min, IntKind.max, IntKind.signed, IntKind.bits] at w1; omega
  have hn : 0 ≤ n ∧ n ≤ 255 := by simp [Lit.wf, IntKind.min, IntKind.max, IntKind.signed, IntKind.bits] at w2; omega
  by_cases hN : A.length ≤ 20
  · by_cases h6 : 1 + n % 38 = 6
    · exact below_six v0 A b n w h0.1 hb hn _ _ _ rfl rfl rfl hN h6
    · by_cases h7 : 1 + n % 38 = 7
      · exact below_seven v0 A b n w h0.1 hb hn _ _ _ rfl rfl rfl hN h7
      · exact below_main v0 A b n w h0.1 hb hn _ _ _ rfl rfl rfl hN h6 h7
  · exact below_long v0 A b n w h0.1 hb hn _ _ _ rfl rfl rfl ⟨by omega, h0.2⟩
end Go.Proofs.Ytfmmomdmemcbbaa
