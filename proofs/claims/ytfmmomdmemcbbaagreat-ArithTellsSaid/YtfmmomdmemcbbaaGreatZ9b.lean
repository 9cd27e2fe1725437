/- The reference's index. -/
import Derived.Test.YtfmmomdmemcbbaaGreatZ9
set_option maxHeartbeats 4000000
set_option maxRecDepth 100000
namespace Go.Proofs.YtfmmomdmemcbbaaGreat
set_option linter.unusedVariables false
open Go.RowKit
section
variable (base p : Nat) (L : List Pl.Ob) (W : World) (hlen : L.length ≤ 200) (h : RS base p L W) (hb : base ≤ W.heap.size)
include hlen h hb
theorem rmove_index_ok (a : Int) (x : Bool) (J : Nat) (hn : L.length = J + 1) (h0 : L[J + 0]? = some (3, x, a, 0, 0, ⟨#[]⟩)) (q1 : Int) (x1 : Bool) (n1 a1 l1 : Int) (s1 : ByteArray) (i j : Nat) (hA : (L.take J)[j]? = some (q1, x1, n1, a1, l1, s1) ∧ i + j + 1 = (L.take J).length) (hi : a = (i : Int)) :
    Calls Tryz.prog 61 #[.pointer (some ⟨p, 0, none⟩), .string ⟨#[105, 110, 100, 101, 120]⟩] W fun e w' => RPost base p W (Pl.giveR (L.take J) 0 [(q1, x1, n1, a1, l1, s1)]) e w' := by
  have e0 := last_one hn h0
  have HS : Hid (RS base p (L.take J ++ [(3, x, a, 0, 0, ⟨#[]⟩)]) W) := Lib.hid (by rw [← e0]; exact h)
  have HB := Lib.hid hb
  have hJ : (L.take J).length ≤ 200 := by rw [List.length_take]; omega
  have TK := Lib.hid (rtake1_ok base p L (W.alloc (.cells #[.int .i64 3] 3)) (by omega) (h.fresh (Fr.alloc _ _ _)) (3, x, a, 0, 0, ⟨#[]⟩) J hn h0 W.heap.size 1 (Nat.le_refl _) 3 (.inr (.inr (.inr rfl))) (by simp [go_sem]) (by rfl))
  clear h0 e0
  generalize L.take J = A at HS hJ hA ⊢
  have CK := Lib.hid (fun Z (hZ : RS base p A Z) => (show Calls Tryz.prog 87 #[.pointer (some ⟨p, 0, none⟩), .int .i64 a] Z fun e w' => e = .returned (.tuple #[obv q1 x1 n1 a1 l1 s1, .int .i64 0]) ∧ Grown Z w' from by
    obtain ⟨v, hS⟩ := hZ
    rw [hi]
    exact rpeek_ok base p v A i j q1 x1 n1 a1 l1 s1 hA.2 hA.1 (by omega) Z hS))
  have CG := Lib.hid (fun Z (hZ : RS base p A Z) (hbZ : base ≤ Z.heap.size) u (hR : RowV Z u [(q1, x1, n1, a1, l1, s1)]) => rgive_any base p A Z (by omega) hZ hbZ 0 (by omega) [(q1, x1, n1, a1, l1, s1)] (by simp) u hR)
  have RN := Lib.hid (fun Z => And.intro (row_new Z [(q1, x1, n1, a1, l1, s1)] #[.int .i64 q1, .bool x1, .int .i64 n1, .int .i64 a1, .int .i64 l1, .string s1] rfl 1 rfl) (Fr.alloc (fun _ => False) Z (.cells #[.int .i64 q1, .bool x1, .int .i64 n1, .int .i64 a1, .int .i64 l1, .string s1] 25)))
  clear hA hi
  clear hlen h hn hb
  go_enter Tryz.func61, Tryz.ntmps61
  go_wp2_with fail
  refine TK.out.mono ?_
  rintro e w2 ⟨f2, g, cap, hgp, hl, hcap, rfl⟩
  have F2 := Lib.hid ((Fr.alloc (fun _ => False) W (.cells #[.int .i64 3] 3)).trans f2)
  have HL := Lib.hid (And.intro hgp hl)
  have ecap : (1 : Int) ≤ (cap : Int) := by omega
  have c2 : w2.cell? ⟨g, J * 6 + 2, none⟩ = some (.int .i64 a) := hl.2 2 _ rfl
  clear TK f2 hl hgp hcap
  have CP := Lib.hid (rs_pop (HS.out.fresh F2.out) (by omega))
  clear HS
  go_wp2_with fail
  refine CP.out.mono ?_
  rintro e w3 ⟨rfl, hs3, f3⟩
  have HS3 := Lib.hid hs3
  have F3 := Lib.hid (f3)
  have d2 : w3.cell? ⟨g, J * 6 + 2, none⟩ = some (.int .i64 a) := (HL.out.2.fr f3 HL.out.1).2 2 _ rfl
  clear hs3 f3 CP c2 HL
  go_wp2_with fail
  refine (CK.out _ HS3.out).mono ?_
  rintro e w4 ⟨rfl, g4⟩
  have G4 := Lib.hid ((Fr.of_grown (fun _ => False) g4).trans (RN.out w4).2)
  clear g4 CK d2
  go_wp2_with fail
  have r5 := (RN.out (w4.alloc (.cells #[.int .i64 q1, .bool x1, .int .i64 n1, .int .i64 a1, .int .i64 l1, .string s1] 25))).1
  rw [show (w4.alloc (.cells #[.int .i64 q1, .bool x1, .int .i64 n1, .int .i64 a1, .int .i64 l1, .string s1] 25)).heap.size = w4.heap.size + 1 by simp] at r5
  have R5 := Lib.hid r5
  clear r5
  have F5 := Lib.hid (G4.out.trans (RN.out (w4.alloc (.cells #[.int .i64 q1, .bool x1, .int .i64 n1, .int .i64 a1, .int .i64 l1, .string s1] 25))).2)
  have F6 := Lib.hid (((F2.out.weaken (fun _ f => f.elim)).trans F3.out).trans (F5.out.weaken (fun _ f => f.elim)))
  clear RN G4 F2 F3
  refine (CG.out _ (HS3.out.fresh F5.out) (Nat.le_trans HB.out F6.out.2.2.1) _ R5.out).mono ?_
  rintro e w8 ⟨rfl, hs, hf⟩
  have H8 := Lib.hid (And.intro hs (F6.out.trans hf))
  clear hs hf CG
  go_wp2_with fail
  go_ret
  exact ⟨rfl, fun _ => H8.out.1, H8.out.2⟩
end
end Go.Proofs.YtfmmomdmemcbbaaGreat
