/- The walk of tympanlaw6.NumtextBases. -/
import Derived.Test.YtpfkijjpophobaaN17
namespace Go.Proofs.Ytpfkijjpophobaa
set_option linter.unusedVariables false
open Go.RowKit

theorem Pl.tx_append (a b : List UInt8) : Pl.tx a ++ Pl.tx b = Pl.tx (a ++ b) := by
  apply ByteArray.ext
  unfold Pl.tx
  simp
theorem Pl.tx_nonempty (l : List UInt8) (h : l ≠ []) : ¬ (Pl.tx l).toList = [] := fun e => by
  rw [ByteArray.toList_eq, Pl.tx_list] at e
  exact h e
theorem Pl.ne_beq {l : List UInt8} (h : ¬ l = []) : (l == []) = false := beq_eq_false_iff_ne.2 h
theorem Pl.ne_empty {l : List UInt8} (h : ¬ l = []) : l.isEmpty = false := by
  cases l with
  | nil => exact absurd rfl h
  | cons _ _ => rfl
theorem Pl.bval_zeros (b : Nat) (L : List Nat) : ∀ j, Pl.bval b 0 (List.replicate j 0 ++ L) = Pl.bval b 0 L
  | 0 => rfl
  | j + 1 => by
    rw [List.replicate_succ, List.cons_append, Pl.bval_cons, Nat.zero_mul]
    exact Pl.bval_zeros b L j

/-- the loop over the digits -/
def Pl.BRel (g : Bool) (b n : Nat) (w : World) (s x : Value) (wr : World) : Prop := ∃ (k : Nat) (L : List Nat) (B : ByteArray), s = .string B ∧ x = .int .i64 (k : Int) ∧ k ≤ 2147483647 ∧ L.length ≤ 32 ∧ Hid (B = Pl.tx (L.map (Pl.dch g))) ∧ Hid (∀ d ∈ L, d < b) ∧ Hid (Pl.bval b k L = n) ∧ Hid (k * 2 ^ L.length ≤ n) ∧ Hid (Kept w wr)
def Pl.BMs (s x : Value) : Nat := match s with | .string B => 2 * (intOf x).toNat + (if B.size = 0 then 1 else 0) | _ => 0
set_option maxRecDepth 100000 in
set_option maxHeartbeats 4000000 in
theorem bases_with (a0 a1 a2 : Int) (g : Bool) (w0 : 0 ≤ a0 ∧ a0 ≤ 4294967295) (w1 : 0 ≤ a1 ∧ a1 ≤ 255) (w2 : 0 ≤ a2 ∧ a2 ≤ 255) (w : World) :
    Calls Try.prog 5 #[.int .u32 a0, .int .u8 a1, .int .u8 a2, .bool g] w fun e w' => e = .returned (.bool true) ∧ Kept w w' := by
  obtain ⟨w00, w01⟩ := w0
  obtain ⟨w10, w11⟩ := w1
  obtain ⟨w20, w21⟩ := w2
  have KN := Lib.hid (known6 w)
  obtain ⟨n, hn⟩ : ∃ n : Nat, a0 % 2147483648 = (n : Int) := ⟨(a0 % 2147483648).toNat, by omega⟩
  obtain ⟨b, hb⟩ : ∃ b : Nat, 2 + a1 % 35 = (b : Int) := ⟨(2 + a1 % 35).toNat, by omega⟩
  obtain ⟨jn, hj⟩ : ∃ jn : Nat, a2 % 5 = (jn : Int) := ⟨(a2 % 5).toNat, by omega⟩
  have hn1 : n ≤ 2147483647 := by omega
  have hb2 : 2 ≤ b := by omega
  have hb36 : b ≤ 36 := by omega
  have hj4 : jn ≤ 4 := by omega
  obtain ⟨TB, hTB⟩ : ∃ TB, TB = Pl.tx (Pl.lett g) := ⟨_, rfl⟩
  have HTB := Lib.hid hTB
  clear hTB
  go_enter Try.func5, Try.ntmps5
  go_wp2_with fail
  refine KN.out.mono ?_
  rintro e w1 ⟨rfl, g1⟩
  go_upto_if 33 with fail
  go_cut [11] (fun s wx => s = .string TB ∧ wx = w1)
  case first =>
    cases g with
    | false =>
      go_wp2_with fail
      go_meet
      case rel => exact ⟨by rw [HTB.out]; rfl, rfl⟩
    | true =>
      go_wp2_with fail
      go_meet
      case rel => exact ⟨by rw [HTB.out]; rfl, rfl⟩
  case rest =>
    obtain ⟨rfl, rfl⟩ := hcut
    have hbI2 : 2 ≤ (b : Int) := by omega
    have hbI36 : (b : Int) ≤ 36 := by omega
    have hbne : ¬ (b : Int) = 0 := by omega
    have hn0 : 0 ≤ (n : Int) := by omega
    go_wp2_with fail
    simp only [hn]
    go_loopw [12, 13] (fun s x wr => Pl.BRel g b n w s x wr) (fun s x _ => Pl.BMs s x)
    case atStart => exact ⟨n, [], ⟨#[]⟩, rfl, (by first | rfl | exact congrArg (Value.int IntKind.i64) hn), hn1, by simp, Lib.hid rfl, Lib.hid (fun d h => by cases h), Lib.hid rfl, Lib.hid (by simp), Lib.hid g1⟩
    case round =>
      obtain ⟨k, L, B, rfl, rfl, hk, hL, HB, HD, HV, HP, HG⟩ := hrel
      by_cases hend : k = 0 ∧ L ≠ []
      · obtain ⟨rfl, hLne⟩ := hend
        have hl3 : ¬ B.toList = [] := by rw [HB.out]; exact Pl.tx_nonempty _ (by simpa using hLne)
        have hl1 := Pl.ne_beq hl3
        have hl2 := Pl.ne_empty hl3
        have HLN := Lib.hid hLne
        clear hLne
        have C1 := Lib.hid (fun Z => digits6 b (by omega) Z)
        clear HP g1 KN
        go_wp2_with fail
        go_loopw [12, 14] (fun s x wq => ∃ (i : Nat) (M : List Nat) (E : ByteArray), s = .string E ∧ x = .int .i64 (i : Int) ∧ i ≤ jn ∧ M.length ≤ 32 + i ∧ Hid (E = Pl.tx (M.map (Pl.dch g))) ∧ Hid (∀ d ∈ M, d < b) ∧ Hid (Pl.bval b 0 M = n) ∧ Hid (M ≠ []) ∧ Hid (Kept w wq)) (fun s x _ => (5 - intOf x).toNat)
        case atStart => exact ⟨0, L, B, rfl, rfl, by omega, by omega, HB, HD, HV, HLN, HG⟩
        case round =>
          obtain ⟨i, M, E, rfl, rfl, hi, hM, HE, HDM, HVM, HMN, HGM⟩ := hrel
          have hEs : E.size = M.length := by rw [HE.out, Pl.tx_size, List.length_map]
          by_cases hlt : i < jn
          · have hltI : (i : Int) < (jn : Int) := by omega
            obtain ⟨R, hR⟩ : ∃ R, ByteArray.mk #[48] ++ E = R := ⟨_, rfl⟩
            have hsz : ¬ (9223372036854775807 < (ByteArray.mk #[48]).size + E.size) := by
              rw [show (ByteArray.mk #[48]).size = 1 from rfl]
              omega
            have HR : Hid (R = Pl.tx ((0 :: M).map (Pl.dch g))) := Lib.hid (by
              rw [← hR, HE.out, List.map_cons, show Pl.dch g 0 = 48 by cases g <;> rfl]
              exact Pl.tx_append [48] _)
            have HD' : Hid (∀ x ∈ 0 :: M, x < b) := Lib.hid (fun x hx => by
              rcases List.mem_cons.1 hx with rfl | h
              · omega
              · exact HDM.out x h)
            have HV' : Hid (Pl.bval b 0 (0 :: M) = n) := Lib.hid (by rw [Pl.bval_cons, Nat.zero_mul]; exact HVM.out)
            have HL' : Hid ((0 :: M).length ≤ 32 + (i + 1)) := Lib.hid (by rw [List.length_cons]; omega)
            clear hEs
            go_wp2_with fail
            refine ⟨⟨i + 1, 0 :: M, R, rfl, by simp, by omega, HL'.out, HR, HD', HV', Lib.hid (by simp), HGM⟩, ?_⟩
            simp [intOf]
            omega
          · have hie : i = jn := by omega
            subst hie
            have hlb := (Pl.base_dec b hb2 hb36).2.1
            have R1 := Pl.read_base b hb2 hb36 (M.map (Pl.dch g)) (by simpa using HMN.out) n (by
              have := Pl.bvl_bval g b (by omega) hb36 M 0 HDM.out (by rw [HVM.out]; omega)
              rw [HVM.out] at this
              exact this) hn1
            have R2 := Pl.read_dash b hb2 hb36 (M.map (Pl.dch g))
            have R3 := Pl.read_nought b (M.map (Pl.dch g))
            have D1 := Lib.hid (fun Z => read_is _ (by simp; omega) _ _ _ R1 Z)
            have D2 := Lib.hid (fun Z => read_is _ (by simp; omega) _ _ _ R2 Z)
            have D3 := Lib.hid (fun Z => read_is _ (by simp; omega) _ _ _ R3 Z)
            obtain ⟨DB, hDB⟩ : ∃ DB, DB = Pl.tx (Pl.dec b) := ⟨_, rfl⟩
            have hDBs : DB.size ≤ 2 := by rw [hDB, Pl.tx_size]; exact hlb
            have C1' : Hid (∀ Z, Calls Try.prog 18 #[.int .i64 (b : Int)] Z fun e w' => e = .returned (.string DB) ∧ Grown Z w') := Lib.hid (by rw [hDB]; exact C1.out)
            obtain ⟨X1, hX1⟩ : ∃ X1, DB ++ ByteArray.mk #[35] = X1 := ⟨_, rfl⟩
            obtain ⟨X2, hX2⟩ : ∃ X2, X1 ++ E = X2 := ⟨_, rfl⟩
            obtain ⟨X3, hX3⟩ : ∃ X3, X2 ++ ByteArray.mk #[45] = X3 := ⟨_, rfl⟩
            obtain ⟨Y1, hY1⟩ : ∃ Y1, ByteArray.mk #[48] ++ DB = Y1 := ⟨_, rfl⟩
            obtain ⟨Y2, hY2⟩ : ∃ Y2, Y1 ++ ByteArray.mk #[35] = Y2 := ⟨_, rfl⟩
            obtain ⟨Y3, hY3⟩ : ∃ Y3, Y2 ++ E = Y3 := ⟨_, rfl⟩
            have u1 : (ByteArray.mk #[35]).size = 1 := rfl
            have u2 : (ByteArray.mk #[45]).size = 1 := rfl
            have u3 : (ByteArray.mk #[48]).size = 1 := rfl
            have x1 : X1.size ≤ 3 := by rw [← hX1, ByteArray.size_append]; omega
            have x2 : X2.size ≤ 40 := by rw [← hX2, ByteArray.size_append]; omega
            have y1 : Y1.size ≤ 3 := by rw [← hY1, ByteArray.size_append]; omega
            have y2 : Y2.size ≤ 4 := by rw [← hY2, ByteArray.size_append]; omega
            have s1 : ¬ (9223372036854775807 < DB.size + (ByteArray.mk #[35]).size) := by omega
            have s2 : ¬ (9223372036854775807 < X1.size + E.size) := by omega
            have s3 : ¬ (9223372036854775807 < X2.size + (ByteArray.mk #[45]).size) := by omega
            have s4 : ¬ (9223372036854775807 < (ByteArray.mk #[48]).size + DB.size) := by omega
            have s5 : ¬ (9223372036854775807 < Y1.size + (ByteArray.mk #[35]).size) := by omega
            have s6 : ¬ (9223372036854775807 < Y2.size + E.size) := by omega
            have q2 : X2 = Pl.tx (Pl.dec b ++ 35 :: M.map (Pl.dch g)) := by
              rw [← hX2, ← hX1, hDB, HE.out, show ByteArray.mk #[35] = Pl.tx [35] from rfl, Pl.tx_append, Pl.tx_append]
              simp
            have q3 : X3 = Pl.tx (Pl.dec b ++ 35 :: (M.map (Pl.dch g) ++ [45])) := by
              rw [← hX3, q2, show ByteArray.mk #[45] = Pl.tx [45] from rfl, Pl.tx_append]
              simp
            have q6 : Y3 = Pl.tx ((48 :: Pl.dec b) ++ 35 :: M.map (Pl.dch g)) := by
              rw [← hY3, ← hY2, ← hY1, hDB, HE.out, show ByteArray.mk #[35] = Pl.tx [35] from rfl, show ByteArray.mk #[48] = Pl.tx [48] from rfl, Pl.tx_append, Pl.tx_append, Pl.tx_append]
              simp
            have E1 : Hid (∀ Z, Calls Try.prog 13 #[.string X2] Z fun x w' => x = .returned (.tuple #[.int .i64 1, .int .i64 (n : Int), .int .i64 0]) ∧ Kept Z w') := Lib.hid (by rw [q2]; exact D1.out)
            have E2 : Hid (∀ Z, Calls Try.prog 13 #[.string X3] Z fun x w' => x = .returned (.tuple #[.int .i64 0, .int .i64 0, .int .i64 3]) ∧ Kept Z w') := Lib.hid (by rw [q3]; exact D2.out)
            have E3 : Hid (∀ Z, Calls Try.prog 13 #[.string Y3] Z fun x w' => x = .returned (.tuple #[.int .i64 0, .int .i64 0, .int .i64 3]) ∧ Kept Z w') := Lib.hid (by rw [q6]; exact D3.out)
            clear q2 q3 q6 D1 D2 D3 R1 R2 R3 u1 u2 u3 x1 x2 y1 y2 hDB hDBs hEs hlb C1 hl1 hl2 hl3
            go_wp2_with fail
            refine (C1'.out _).mono ?_
            rintro e v1 ⟨rfl, k1⟩
            go_wp2_with fail
            refine (E1.out _).mono ?_
            rintro e v2 ⟨rfl, k2⟩
            go_wp2_with fail
            refine (C1'.out _).mono ?_
            rintro e v3 ⟨rfl, k3⟩
            go_wp2_with fail
            refine (E2.out _).mono ?_
            rintro e v4 ⟨rfl, k4⟩
            go_wp2_with fail
            refine (C1'.out _).mono ?_
            rintro e v5 ⟨rfl, k5⟩
            go_wp2_with fail
            refine (E3.out _).mono ?_
            rintro e v6 ⟨rfl, k6⟩
            go_wp2_with fail
            go_ret
            exact ⟨rfl, ((((((HGM.out.trans (.of_grown k1)).trans k2).trans (.of_grown k3)).trans k4).trans (.of_grown k5)).trans k6)⟩
      · have hL30 : L.length ≤ 31 := by
          rcases Nat.eq_zero_or_pos k with h0 | h0
          · have : L = [] := Classical.byContradiction (fun h => hend ⟨h0, h⟩)
            rw [this]
            simp
          · have h1 : 1 * 2 ^ L.length ≤ k * 2 ^ L.length := Nat.mul_le_mul_right _ h0
            have h2 := HP.out
            have h3 : 2 ^ L.length < 2 ^ 31 := by omega
            have := (Nat.pow_lt_pow_iff_right (show 1 < 2 by omega)).1 h3
            omega
        have hx := Nat.div_add_mod k b
        have hdb : k % b < b := Nat.mod_lt _ (by omega)
        have hqk : k / b ≤ k := Nat.div_le_self k b
        have hq2 : 2 * (k / b) ≤ k := by
          have : 2 * (k / b) ≤ b * (k / b) := Nat.mul_le_mul_right _ hb2
          omega
        have e1 : (k : Int) % (b : Int) = ((k % b : Nat) : Int) := by rw [Int.natCast_emod]
        have e2 : (k : Int) / (b : Int) = ((k / b : Nat) : Int) := by rw [Int.natCast_ediv]
        have sl := letter_at g (k % b) (by omega)
        obtain ⟨d, hd⟩ : ∃ d, d = k % b := ⟨_, rfl⟩
        obtain ⟨q, hq⟩ : ∃ q, q = k / b := ⟨_, rfl⟩
        rw [← hd] at hx hdb e1 sl
        rw [← hq] at hx hqk hq2 e2
        rw [← HTB.out] at sl
        have HD' : Hid (∀ x ∈ d :: L, x < b) := Lib.hid (fun x hx => by
          rcases List.mem_cons.1 hx with rfl | h
          · exact hdb
          · exact HD.out x h)
        have HV' : Hid (Pl.bval b q (d :: L) = n) := Lib.hid (by rw [Pl.bval_cons, Nat.mul_comm q b, hx]; exact HV.out)
        have HP' : Hid (q * 2 ^ (d :: L).length ≤ n) := Lib.hid (by
          have h2 := HP.out
          have h3 : (2 * q) * 2 ^ L.length ≤ k * 2 ^ L.length := Nat.mul_le_mul_right _ hq2
          rw [List.length_cons, Nat.pow_succ]
          have e : q * (2 ^ L.length * 2) = (2 * q) * 2 ^ L.length := by
            rw [Nat.mul_comm (2 ^ L.length) 2, ← Nat.mul_assoc, Nat.mul_comm q 2]
          omega)
        obtain ⟨C, hC⟩ : ∃ C, C = Pl.tx [Pl.dch g d] := ⟨_, rfl⟩
        rw [← hC] at sl
        have hCs : C.size = 1 := by rw [hC, Pl.tx_size]; rfl
        have hBs : B.size = L.length := by rw [HB.out, Pl.tx_size, List.length_map]
        obtain ⟨R, hR⟩ : ∃ R, C ++ B = R := ⟨_, rfl⟩
        have hRs : R.size = L.length + 1 := by rw [← hR, ByteArray.size_append]; omega
        have hsz : ¬ (9223372036854775807 < C.size + B.size) := by omega
        have HR : Hid (R = Pl.tx ((d :: L).map (Pl.dch g))) := Lib.hid (by
          rw [← hR, hC, HB.out, Pl.tx_append]
          rfl)
        have hd0 : 0 ≤ (d : Int) := by omega
        have hd1 : (d : Int) ≤ 35 := by omega
        have hq0 : 0 ≤ (q : Int) := by omega
        have hq1 : (q : Int) ≤ 2147483647 := by omega
        have hkI : (k : Int) ≤ 2147483647 := by omega
        have hmeas : 2 * q + (if R.size = 0 then 1 else 0) < 2 * k + (if B.size = 0 then 1 else 0) := by
          rw [hRs, if_neg (by omega)]
          rcases Nat.eq_zero_or_pos k with h0 | h0
          · have hLn : L = [] := Classical.byContradiction (fun h => hend ⟨h0, h⟩)
            rw [hBs, hLn]
            simp
            omega
          · omega
        have hLl : (d :: L).length ≤ 32 := by rw [List.length_cons]; omega
        have HM := Lib.hid hmeas
        have HLl := Lib.hid hLl
        by_cases h0 : k = 0
        · have hLn : L = [] := Classical.byContradiction (fun h => hend ⟨h0, h⟩)
          subst hLn
          subst h0
          have hB0 : B = ⟨#[]⟩ := by rw [HB.out]; rfl
          subst hB0
          have hd00 : d = 0 := by rw [hd, Nat.zero_mod]
          have hq00 : q = 0 := by rw [hq, Nat.zero_div]
          subst hd00
          subst hq00
          have sl0 : ∀ W : World, (Instr.slice 9 (.string TB) (some (.int .i64 0)) (some (.int .i64 1)) none).run Try.prog W = .ok (.string C) W := sl
          clear hd hq hx hmeas hLl hC hCs hRs hend HB HD HV HP e1 e2 sl
          go_wp2_with fail
          go_quiet (fail)
          go_wp2_with fail
          refine ⟨⟨0, [0], R, rfl, rfl, by omega, HLl.out, HR, HD', HV', HP', Lib.hid HG.out⟩, ?_⟩
          show 2 * (intOf (.int .i64 ((0 : Nat) : Int))).toNat + (if R.size = 0 then 1 else 0) < 2 * (intOf (.int .i64 ((0 : Nat) : Int))).toNat + (if (ByteArray.mk #[]).size = 0 then 1 else 0)
          exact HM.out
        · have hk1 : (0 : Int) < (k : Int) := by omega
          clear hd hq hx hmeas hLl hC hCs hRs hend h0 HB HD HV HP
          go_wp2_with fail
          go_quiet (fail)
          go_wp2_with fail
          go_roundw
          case rel => exact ⟨q, d :: L, R, rfl, rfl, by omega, HLl.out, HR, HD', HV', HP', Lib.hid HG.out⟩
          case measure =>
            show 2 * (intOf (.int .i64 (q : Int))).toNat + (if R.size = 0 then 1 else 0) < 2 * (intOf (.int .i64 (k : Int))).toNat + (if B.size = 0 then 1 else 0)
            exact HM.out
theorem walk_NumtextBases (a0 a1 a2 : Int) (g : Bool) (w0 : (Lit.int .u32 a0).wf = true) (w1 : (Lit.int .u8 a1).wf = true) (w2 : (Lit.int .u8 a2).wf = true) (w : World) :
    Calls Try.prog 5 #[.int .u32 a0, .int .u8 a1, .int .u8 a2, .bool g] w fun e w' => e = .returned (.bool true) ∧ Kept w w' := by
  have w0 : 0 ≤ a0 ∧ a0 ≤ 4294967295 := by simp [Lit.wf, IntKind.min, IntKind.max, IntKind.signed, IntKind.bits] at w0; omega
  have w1 : 0 ≤ a1 ∧ a1 ≤ 255 := by simp [Lit.wf, IntKind.min, IntKind.max, IntKind.signed, IntKind.bits] at w1; omega
  have w2 : 0 ≤ a2 ∧ a2 ≤ 255 := by simp [Lit.wf, IntKind.min, IntKind.max, IntKind.signed, IntKind.bits] at w2; omega
  exact bases_with a0 a1 a2 g w0 w1 w2 w
end Go.Proofs.Ytpfkijjpophobaa
