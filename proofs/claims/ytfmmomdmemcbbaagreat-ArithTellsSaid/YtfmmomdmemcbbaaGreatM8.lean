/- The walk of root.Cut. · The walks of the references of layer -/
import Derived.Lib.Strings
import Derived.Lib.Slices
import Derived.Lib.Small
import Derived.Lib.Walk
import Derived.Lib.BitFns
import Derived.Lib.ItoaNum
import Derived.Lib.Tables
import Derived.Deep.Light
import Derived.Lib.Hide
import Derived.Test.YtfmmomdmemcbbaaGreatM3
import Derived.Test.YtfmmomdmemcbbaaGreatM6
import Derived.Test.YtfmmomdmemcbbaaGreatM4
import Derived.Test.YtfmmomdmemcbbaaGreatM7
import Derived.Test.YtfmmomdmemcbbaaGreatM5
set_option maxHeartbeats 32000000
set_option maxRecDepth 1000000
namespace Go.Proofs.YtfmmomdmemcbbaaGreat
set_option linter.unusedVariables false
open Go.RowKit
end Go.Proofs.YtfmmomdmemcbbaaGreat
namespace Go.Proofs.YtfmmomdmemcbbaaGreat
set_option linter.unusedVariables false
open Go.RowKit
theorem mag1_any (v : Int) (hv : -9223372036854775808 ≤ v ∧ v ≤ 9223372036854775807) (w : World) :
    Calls Tryz.prog 136 #[.int .i64 v] w fun e w' => e = .returned (.int .u64 (Pl.mag v)) ∧ w = w' := by
  by_cases h : v < 0
  · go_enter Tryz.func136, Tryz.ntmps136
    go_wp2
    go_ret
    exact ⟨ret_int (by unfold Pl.mag; rw [if_pos h]; omega), rfl⟩
  · go_enter Tryz.func136, Tryz.ntmps136
    go_wp2
    go_ret
    exact ⟨ret_int (by unfold Pl.mag; rw [if_neg (by omega)]), rfl⟩
theorem Pl.mul64_parts (a b w1 w2 : Int) (h1 : w1 = (a / 4294967296) * (b % 4294967296) + (a % 4294967296) * (b % 4294967296) / 4294967296)
    (h2 : w2 = w1 % 4294967296 + (a % 4294967296) * (b / 4294967296)) :
    (a / 4294967296) * (b / 4294967296) + w1 / 4294967296 + w2 / 4294967296 = a * b / 18446744073709551616 := by
  have := (Pl.prod_parts a b _ rfl).1
  rw [← this]
  generalize (a / 4294967296) * (b / 4294967296) = p3 at *
  generalize (a / 4294967296) * (b % 4294967296) = p1 at *
  generalize (a % 4294967296) * (b / 4294967296) = p2 at *
  generalize (a % 4294967296) * (b % 4294967296) = p0 at *
  omega
theorem mul64_any (a b : Int) (ha : 0 ≤ a ∧ a ≤ 18446744073709551615) (hb : 0 ≤ b ∧ b ≤ 18446744073709551615) (w : World) :
    Calls Tryz.prog 141 #[.int .u64 a, .int .u64 b] w fun e w' => e = .returned (.tuple #[.int .u64 (a * b / 18446744073709551616), .int .u64 (a * b % 18446744073709551616)]) ∧ w = w' := by
  have p0 := Pl.mul_lt32 (a % 4294967296) (b % 4294967296) (by omega) (by omega) (by omega) (by omega)
  have p1 := Pl.mul_lt32 (a / 4294967296) (b % 4294967296) (by omega) (by omega) (by omega) (by omega)
  have p2 := Pl.mul_lt32 (a % 4294967296) (b / 4294967296) (by omega) (by omega) (by omega) (by omega)
  have p3 := Pl.mul_lt32 (a / 4294967296) (b / 4294967296) (by omega) (by omega) (by omega) (by omega)
  go_enter Tryz.func141, Tryz.ntmps141
  go_wp2
  go_ret2
  refine ⟨ret2_int ?_ ?_, rfl⟩
  · exact Pl.mul64_parts a b _ _ rfl rfl
  · rw [IntKind.wrap_u64]
theorem root2_floor (n : Int) (hn : 0 ≤ n ∧ n ≤ 18446744073709551615) (w : World) :
    Calls Tryz.prog 103 #[.int .u64 n] w fun e w' => e = .returned (.int .u64 (Pl.root n)) ∧ w = w' := by
  go_enter Tryz.func103, Tryz.ntmps103
  go_wp2
  go_loop [3, 4] (fun r i => ∃ k : Nat, k ≤ 32 ∧ i = .int .i64 (31 - (k : Int)) ∧ r = .int .u64 (Pl.rootTo n k)) (fun _ i => (intOf i + 1).toNat)
  case atStart => exact ⟨0, by omega, rfl, rfl⟩
  case round =>
    obtain ⟨k, hk, rfl, rfl⟩ := hrel
    by_cases hlt : k < 32
    · have hb := Pl.rootTo_bd n hn.1 (by omega) k (by omega)
      have hw := Pl.pow_lt64 (31 - k) (by omega)
      obtain ⟨m, hm⟩ : ∃ m : Nat, 31 - k = m := ⟨_, rfl⟩
      have hi : (31 - (k : Int)) = (m : Int) := by omega
      have hor : bits .or .u64 (Pl.rootTo n k) (2 ^ (31 - k)) = Pl.rootTo n k + 2 ^ (31 - k) := by
        obtain ⟨R, e, r0, r1, _, _⟩ := Pl.rootTo_spec n hn.1 (by omega) k (by omega)
        have ep : (2 : Int) ^ (32 - k) = 2 * 2 ^ (31 - k) := by rw [show 32 - k = (31 - k) + 1 by omega, Int.pow_succ]; omega
        rw [e] at hb ⊢
        exact Pl.or_shifted_u64 (32 - k) R _ (by omega) (by omega) r0 (by omega)
      have hs : Pl.rootTo n (k + 1) = if (Pl.rootTo n k + 2 ^ (31 - k)) * (Pl.rootTo n k + 2 ^ (31 - k)) ≤ n then Pl.rootTo n k + 2 ^ (31 - k) else Pl.rootTo n k := rfl
      rw [hm] at hb hw hor hs
      rw [hi]
      have hmb : m ≤ 31 := by omega
      have HI := Lib.hid hi; clear hi
      have HM := Lib.hid hm; clear hm
      have HS := Lib.hid hs; clear hs
      by_cases c : (Pl.rootTo n k + 2 ^ m) * (Pl.rootTo n k + 2 ^ m) ≤ n
      · go_wp2
        go_round
        case rel => exact ⟨k + 1, by omega, congrArg (Value.int .i64) (by have := HI.out; omega), by rw [HS.out, if_pos (by assumption)]⟩
        case measure => simp [intOf] <;> omega
      · go_wp2
        go_round
        case rel => exact ⟨k + 1, by omega, congrArg (Value.int .i64) (by have := HI.out; omega), by rw [HS.out, if_neg (by omega)]⟩
        case measure => simp [intOf] <;> omega
    · obtain rfl : k = 32 := by omega
      go_wp2
      go_ret
      exact ⟨rfl, rfl⟩
end Go.Proofs.YtfmmomdmemcbbaaGreat
namespace Go.Proofs.YtfmmomdmemcbbaaGreat
set_option linter.unusedVariables false
open Go.RowKit
theorem len8tab_size : (Lib.len8tab.size : Int) = 256 := by
  have : Lib.len8tab.size = 256 := by decide
  omega
theorem wrap_add (k a b : Nat) (hk : k ≤ 56) (ha : a ≤ 8) (hb : b = k + a) : wrap64 ((k : Int) + wrap64 (a : Int)) = (b : Int) := by
  unfold wrap64
  omega
theorem wrap_wrap (a : Nat) (ha : a ≤ 8) : wrap64 (wrap64 (a : Int)) = (a : Int) := by
  unfold wrap64
  omega
theorem wrap_one (a : Nat) (ha : a ≤ 8) : wrap64 (a : Int) = (a : Int) := by
  unfold wrap64
  omega
theorem len8_get (y : Int) (h : y.toNat < Lib.len8tab.size) : ((Lib.len8tab[y.toNat]'h).toNat : Int) = Lib.len8 y := by
  unfold Lib.len8
  rw [getElem?_pos Lib.len8tab y.toNat h]
  rfl
theorem len64_any (x : Int) (w : World) (h0 : 0 ≤ x) (h1 : x ≤ 18446744073709551615) :
    Calls Tryz.prog 144 #[.int .u64 x] w fun e w' => e = .returned (.int .i64 (Lib.bitLen x.toNat)) ∧ w = w' := by
  go_enter Tryz.func144, Tryz.ntmps144
  go_wp2
  all_goals first
    | (go_ret; refine ⟨congrArg Ending.returned (congrArg (Value.int IntKind.i64) ?_), rfl⟩; go_light)
    | (exfalso
       go_light
       have hs := len8tab_size
       omega)
  all_goals first
    | (rw [len8_get (x / 4294967296 / 65536 / 256) _, Lib.len8_of (x / 4294967296 / 65536 / 256) (by omega) (by omega)]
       have e : (x / 4294967296 / 65536 / 256).toNat = x.toNat / 72057594037927936 := by omega
       have l := Lib.bitLen_le8' (x / 4294967296 / 65536 / 256) (by omega) (by omega)
       have s := Lib.bitLen_shift56 x.toNat (by omega) (by omega)
       rw [e] at l ⊢
       exact wrap_add 56 _ _ (by decide) l s)
    | (rw [len8_get (x / 4294967296 / 65536) _, Lib.len8_of (x / 4294967296 / 65536) (by omega) (by omega)]
       have e : (x / 4294967296 / 65536).toNat = x.toNat / 281474976710656 := by omega
       have l := Lib.bitLen_le8' (x / 4294967296 / 65536) (by omega) (by omega)
       have s := Lib.bitLen_shift48 x.toNat (by omega) (by omega)
       rw [e] at l ⊢
       exact wrap_add 48 _ _ (by decide) l s)
    | (rw [len8_get (x / 4294967296 / 256) _, Lib.len8_of (x / 4294967296 / 256) (by omega) (by omega)]
       have e : (x / 4294967296 / 256).toNat = x.toNat / 1099511627776 := by omega
       have l := Lib.bitLen_le8' (x / 4294967296 / 256) (by omega) (by omega)
       have s := Lib.bitLen_shift40 x.toNat (by omega) (by omega)
       rw [e] at l ⊢
       exact wrap_add 40 _ _ (by decide) l s)
    | (rw [len8_get (x / 4294967296) _, Lib.len8_of (x / 4294967296) (by omega) (by omega)]
       have e : (x / 4294967296).toNat = x.toNat / 4294967296 := by omega
       have l := Lib.bitLen_le8' (x / 4294967296) (by omega) (by omega)
       have s := Lib.bitLen_shift32 x.toNat (by omega) (by omega)
       rw [e] at l ⊢
       exact wrap_add 32 _ _ (by decide) l s)
    | (rw [len8_get (x / 65536 / 256) _, Lib.len8_of (x / 65536 / 256) (by omega) (by omega)]
       have e : (x / 65536 / 256).toNat = x.toNat / 16777216 := by omega
       have l := Lib.bitLen_le8' (x / 65536 / 256) (by omega) (by omega)
       have s := Lib.bitLen_shift24 x.toNat (by omega) (by omega)
       rw [e] at l ⊢
       exact wrap_add 24 _ _ (by decide) l s)
    | (rw [len8_get (x / 65536) _, Lib.len8_of (x / 65536) (by omega) (by omega)]
       have e : (x / 65536).toNat = x.toNat / 65536 := by omega
       have l := Lib.bitLen_le8' (x / 65536) (by omega) (by omega)
       have s := Lib.bitLen_shift16 x.toNat (by omega) (by omega)
       rw [e] at l ⊢
       exact wrap_add 16 _ _ (by decide) l s)
    | (rw [len8_get (x / 256) _, Lib.len8_of (x / 256) (by omega) (by omega)]
       have e : (x / 256).toNat = x.toNat / 256 := by omega
       have l := Lib.bitLen_le8' (x / 256) (by omega) (by omega)
       have s := Lib.bitLen_shift8 x.toNat (by omega) (by omega)
       rw [e] at l ⊢
       exact wrap_add 8 _ _ (by decide) l s)
    | (rw [len8_get (x) _, Lib.len8_of (x) (by omega) (by omega)]
       have e : (x).toNat = x.toNat := by omega
       have l := Lib.bitLen_le8' (x) (by omega) (by omega)
       rw [e] at l ⊢
       first | exact wrap_wrap _ l | exact wrap_add 0 _ _ (by decide) l (by omega) | exact wrap_one _ l)
theorem lz64_any (x : Int) (w : World) (h0 : 0 ≤ x) (h1 : x ≤ 18446744073709551615) :
    Calls Tryz.prog 143 #[.int .u64 x] w fun e w' => e = .returned (.int .i64 (64 - (Lib.bitLen x.toNat : Int))) ∧ w = w' := by
  have l : Lib.bitLen x.toNat ≤ 64 := Lib.bitLen_le x.toNat 64 (by omega) (by omega)
  have C := fun w => len64_any x w h0 h1
  generalize Lib.bitLen x.toNat = L at *
  have C := Lib.hid C
  go_enter Tryz.func143, Tryz.ntmps143
  go_wp2_with fail
  refine (C.out _).mono ?_
  rintro e w1 ⟨rfl, rfl⟩
  go_wp2
  go_ret
  exact ⟨rfl, rfl⟩
theorem Pl.lz_bd (x : Int) (h0 : 0 < x) (h1 : x ≤ 18446744073709551615) : ∃ s : Nat, (64 - (Lib.bitLen x.toNat : Int)) = (s : Int) ∧ s ≤ 63 ∧ 9223372036854775808 ≤ x * 2 ^ s ∧ x * 2 ^ s ≤ 18446744073709551615 := by
  obtain ⟨a, b, c⟩ := Lib.bitLenAux_bounds 64 x.toNat (by omega) (by omega)
  have hL : Lib.bitLenAux 64 x.toNat ≤ 64 := Lib.bitLen_le x.toNat 64 (by omega) (by omega)
  unfold Lib.bitLen
  generalize Lib.bitLenAux 64 x.toNat = L at *
  refine ⟨64 - L, by omega, by omega, ?_⟩
  obtain ⟨n, rfl⟩ := Int.eq_ofNat_of_zero_le (show 0 ≤ x by omega)
  have hn : (n : Int).toNat = n := rfl
  rw [hn] at b c
  have e1 : 2 ^ (L - 1) * 2 ^ (64 - L) = 2 ^ 63 := by rw [← Nat.pow_add]; congr 1; omega
  have e2 : 2 ^ L * 2 ^ (64 - L) = 2 ^ 64 := by rw [← Nat.pow_add]; congr 1; omega
  have m1 := Nat.mul_le_mul_right (2 ^ (64 - L)) b
  have m2 := Nat.mul_le_mul_right (2 ^ (64 - L)) (Nat.succ_le_of_lt c)
  have p : 0 < 2 ^ (64 - L) := Nat.two_pow_pos _
  rw [e1] at m1
  rw [Nat.succ_mul, e2] at m2
  have g : ((n : Int) * 2 ^ (64 - L)) = ((n * 2 ^ (64 - L) : Nat) : Int) := by simp
  rw [g]
  generalize n * 2 ^ (64 - L) = N at *
  omega
end Go.Proofs.YtfmmomdmemcbbaaGreat
namespace Go.Proofs.YtfmmomdmemcbbaaGreat
set_option linter.unusedVariables false
theorem Pl.kn_Y {y1 y0 Y : Int} (hY : Y = y1 * 4294967296 + y0) (h1 : 2147483648 ≤ y1) (h0 : 0 ≤ y0) : 0 < Y := by omega
theorem Pl.kn_lt {u v y1 y0 Y : Int} (hY : Y = y1 * 4294967296 + y0) (h1 : 2147483648 ≤ y1) (h0 : 0 ≤ y0) (hu : u < Y) (hv : v < 4294967296) :
    (u * 4294967296 + v) / Y < 4294967296 :=
  Int.ediv_lt_of_lt_mul (Pl.kn_Y hY h1 h0) (by omega)
theorem Pl.kn_start {u v y1 y0 Y : Int} (hY : Y = y1 * 4294967296 + y0) (h1 : 2147483648 ≤ y1) (h0 : 0 ≤ y0) (hu : 0 ≤ u) (hv : v < 4294967296) (hv0 : 0 ≤ v) :
    (u * 4294967296 + v) / Y ≤ u / y1 := by
  have pY := Pl.kn_Y hY h1 h0
  refine Int.le_ediv_of_mul_le (by omega) ?_
  have q0 : 0 ≤ (u * 4294967296 + v) / Y := Int.ediv_nonneg (by omega) (by omega)
  have hm : (u * 4294967296 + v) / Y * Y ≤ u * 4294967296 + v := Int.ediv_mul_le _ (by omega)
  generalize (u * 4294967296 + v) / Y = Q at *
  have e : Q * Y = Q * y1 * 4294967296 + Q * y0 := by rw [hY, Int.mul_add, ← Int.mul_assoc]
  have n : 0 ≤ Q * y0 := Int.mul_nonneg q0 h0
  generalize Q * y1 = p at *
  generalize Q * y0 = r at *
  omega
theorem Pl.kn_start_le {u y1 y0 Y : Int} (hY : Y = y1 * 4294967296 + y0) (h1 : 2147483648 ≤ y1) (h0 : y0 < 4294967296) (hu : u < Y) : u / y1 ≤ 4294967297 := by
  have : u / y1 < 4294967298 := Int.ediv_lt_of_lt_mul (by omega) (by omega)
  omega
theorem Pl.kn_gt {u v y1 y0 Y q r : Int} (hY : Y = y1 * 4294967296 + y0) (h1 : 2147483648 ≤ y1) (h0 : 0 ≤ y0) (e : q * y1 + r = u) (h : 4294967296 * r + v < q * y0) :
    (u * 4294967296 + v) / Y < q := by
  refine Int.ediv_lt_of_lt_mul (Pl.kn_Y hY h1 h0) ?_
  have e2 : q * Y = q * y1 * 4294967296 + q * y0 := by rw [hY, Int.mul_add, ← Int.mul_assoc]
  rw [e2]
  generalize q * y1 = p at *
  generalize q * y0 = p' at *
  omega
theorem Pl.kn_le {u v y1 y0 Y q r : Int} (hY : Y = y1 * 4294967296 + y0) (h1 : 2147483648 ≤ y1) (h0 : 0 ≤ y0) (e : q * y1 + r = u) (h : q * y0 ≤ 4294967296 * r + v) :
    q ≤ (u * 4294967296 + v) / Y := by
  refine Int.le_ediv_of_mul_le (Pl.kn_Y hY h1 h0) ?_
  have e2 : q * Y = q * y1 * 4294967296 + q * y0 := by rw [hY, Int.mul_add, ← Int.mul_assoc]
  rw [e2]
  generalize q * y1 = p at *
  generalize q * y0 = p' at *
  omega
theorem Pl.kn_break {u v y1 y0 Y q r : Int} (hY : Y = y1 * 4294967296 + y0) (h1 : 2147483648 ≤ y1) (h0 : 0 ≤ y0) (h0' : y0 < 4294967296) (hv : 0 ≤ v) (e : q * y1 + r = u)
    (q0 : 0 ≤ q) (hq : q ≤ 4294967296) (hr : 4294967296 ≤ r) : q ≤ (u * 4294967296 + v) / Y := by
  refine Pl.kn_le hY h1 h0 e ?_
  have : q * y0 ≤ 4294967296 * 4294967295 := Int.mul_le_mul hq (by omega) h0 (by omega)
  omega
theorem Pl.kn_mul_le {q y0 : Int} (q0 : 0 ≤ q) (hq : q < 4294967296) (h0 : 0 ≤ y0) (h0' : y0 < 4294967296) : 0 ≤ q * y0 ∧ q * y0 ≤ 18446744065119617025 :=
  ⟨Int.mul_nonneg q0 h0, by have : q * y0 ≤ 4294967295 * 4294967295 := Int.mul_le_mul (by omega) (by omega) h0 (by omega); omega⟩
theorem Pl.kn_two {H L Y v1 v0 : Int} (hY : 0 < Y) (hL : L = v1 * 4294967296 + v0) (h0 : 0 ≤ v0) (h0' : v0 < 4294967296) (h1 : 0 ≤ v1) (h1' : v1 < 4294967296) :
    (H * 18446744073709551616 + L) / Y = (H * 4294967296 + v1) / Y * 4294967296 + ((H * 4294967296 + v1) % Y * 4294967296 + v0) / Y ∧
    (H * 18446744073709551616 + L) % Y = ((H * 4294967296 + v1) % Y * 4294967296 + v0) % Y := by
  have e := Int.mul_ediv_add_emod (H * 4294967296 + v1) Y
  generalize (H * 4294967296 + v1) / Y = q1 at *
  generalize (H * 4294967296 + v1) % Y = r1 at *
  have k : H * 18446744073709551616 + L = (r1 * 4294967296 + v0) + (q1 * 4294967296) * Y := by
    have : q1 * 4294967296 * Y = Y * q1 * 4294967296 := by rw [Int.mul_comm (q1 * 4294967296) Y, ← Int.mul_assoc]
    rw [this]
    generalize Y * q1 = p at *
    omega
  rw [k]
  constructor
  · rw [Int.add_mul_ediv_right _ _ (by omega)]; omega
  · rw [Int.add_mul_emod_self_right]
theorem Pl.kn_scale (U y k : Int) (hk : 0 < k) : (U * k) / (y * k) = U / y ∧ (U * k) % (y * k) / k = U % y := by
  refine ⟨Int.mul_ediv_mul_of_pos_left U y hk, ?_⟩
  rw [Int.mul_comm U k, Int.mul_comm y k, Int.mul_emod_mul_of_pos _ _ hk, Int.mul_ediv_cancel_left _ (by omega)]
theorem Pl.kn_words (hi lo K K' : Int) (hK : 0 < K) (hK' : 0 < K') (hKK : K * K' = 18446744073709551616) (h0 : 0 ≤ lo) (h1 : lo < 18446744073709551616) :
    (hi * 18446744073709551616 + lo) * K = (hi * K + lo / K') * 18446744073709551616 + lo * K % 18446744073709551616 := by
  have e : lo * K / 18446744073709551616 = lo / K' := by rw [← hKK, Int.mul_comm K K', Int.mul_ediv_mul_of_pos_left _ _ hK]
  have d := Int.mul_ediv_add_emod (lo * K) 18446744073709551616
  rw [e] at d
  rw [Int.add_mul, Int.add_mul, Int.mul_assoc, Int.mul_comm 18446744073709551616 K, ← Int.mul_assoc]
  generalize hi * K = a at *
  generalize lo * K = b at *
  generalize lo / K' = c at *
  omega
end Go.Proofs.YtfmmomdmemcbbaaGreat
namespace Go.Proofs.YtfmmomdmemcbbaaGreat
set_option linter.unusedVariables false
open Go.RowKit
theorem Pl.kn_pre {u v Y T : Int} (Y0 : 9223372036854775808 ≤ Y) (Y1 : Y ≤ 18446744073709551615) (u0 : 0 ≤ u) (u1 : u < Y) (v0 : 0 ≤ v) (v1 : v < 4294967296) (hT : (u * 4294967296 + v) / Y = T) :
    0 ≤ T ∧ T < 4294967296 ∧ u / (Y / 4294967296) ≤ 4294967297 ∧ T ≤ u / (Y / 4294967296) ∧ u / (Y / 4294967296) * (Y / 4294967296) ≤ u ∧ 0 ≤ u / (Y / 4294967296) ∧ 0 ≤ u / (Y / 4294967296) * (Y / 4294967296) ∧
    u - u / (Y / 4294967296) * (Y / 4294967296) < Y / 4294967296 := by
  have hYY : Y = Y / 4294967296 * 4294967296 + Y % 4294967296 := by omega
  have a4 : 0 ≤ u / (Y / 4294967296) := Int.ediv_nonneg u0 (by omega)
  refine ⟨by rw [← hT]; exact Int.ediv_nonneg (by omega) (by omega), by rw [← hT]; exact Pl.kn_lt hYY (by omega) (by omega) u1 (by omega), Pl.kn_start_le hYY (by omega) (by omega) u1,
    by rw [← hT]; exact Pl.kn_start (v := v) hYY (by omega) (by omega) u0 (by omega) (by omega), Int.ediv_mul_le _ (by omega), a4, Int.mul_nonneg a4 (by omega), ?_⟩
  have := Int.emod_lt_of_pos u (show 0 < Y / 4294967296 by omega)
  have e := Int.mul_ediv_add_emod u (Y / 4294967296)
  rw [Int.mul_comm] at e
  omega
theorem div64_core (hi lo y Y H L u V T N T2 M : Int) (s : Nat) (hs : s ≤ 63) (h0 : 0 < hi) (h1 : hi < y) (y1 : y ≤ 18446744073709551615) (l0 : 0 ≤ lo) (l1 : lo ≤ 18446744073709551615)
    (LZ : Hid (∀ w, Calls Tryz.prog 143 #[.int .u64 y] w fun e w' => e = .returned (.int .i64 (s : Int)) ∧ w = w'))
    (hY : y * 2 ^ s = Y) (Y0 : 9223372036854775808 ≤ Y) (Y1 : Y ≤ 18446744073709551615)
    (hH : hi * 2 ^ s = H) (H0 : 0 ≤ H) (H1 : H ≤ 18446744073709551615) (hL : lo / 2 ^ (64 - s) = L) (hu : bits .or .u64 H L = u) (u0 : 0 ≤ u) (u1 : u < Y)
    (hV : IntKind.u64.wrap (lo * 2 ^ s) = V) (V0 : 0 ≤ V) (V1 : V ≤ 18446744073709551615) (hT : Hid ((u * 4294967296 + V / 4294967296) / Y = T))
    (hN : IntKind.u64.wrap (IntKind.u64.wrap (IntKind.u64.wrap (u * 4294967296) + V / 4294967296) - IntKind.u64.wrap (T * Y)) = N) (N0 : 0 ≤ N) (N1 : N < Y)
    (hT2 : Hid ((N * 4294967296 + V % 4294967296) / Y = T2))
    (hM : IntKind.u64.wrap (IntKind.u64.wrap (IntKind.u64.wrap (N * 4294967296) + V % 4294967296) - IntKind.u64.wrap (T2 * Y)) = M) (w : World) :
    Calls Tryz.prog 142 #[.int .u64 hi, .int .u64 lo, .int .u64 y] w fun e w' => e = .returned (.tuple #[.int .u64 (T * 4294967296 + T2), .int .u64 (M / 2 ^ s)]) ∧ w = w' := by
  obtain ⟨T0, T1, A1, A2, a3, a4, a5, A6⟩ := Pl.kn_pre Y0 Y1 u0 u1 (by omega) (by omega) hT.out
  obtain ⟨S0, S1, B1, B2, b3, b4, b5, B6⟩ := Pl.kn_pre Y0 Y1 N0 N1 (by omega) (by omega) hT2.out
  have A1 := Lib.hid A1; have A2 := Lib.hid A2; have A6 := Lib.hid A6
  have B1 := Lib.hid B1; have B2 := Lib.hid B2; have B6 := Lib.hid B6
  go_enter Tryz.func142, Tryz.ntmps142
  go_wp2_with fail
  refine (LZ.out _).mono ?_
  rintro e w1 ⟨rfl, rfl⟩
  have e1 : IntKind.u64.wrap (s : Int) = s := by rw [IntKind.wrap_u64]; omega
  go_wp2
  go_loop [15, 16] (fun q r => ∃ (Q R : Int), 0 ≤ Q ∧ Q ≤ 4294967297 ∧ 0 ≤ R ∧ R < 4294967296 ∧ Hid (Q * (Y / 4294967296) + R = u) ∧ T ≤ Q ∧ q = .int .u64 Q ∧ r = .int .u64 R) (fun q _ => (intOf q).toNat)
  case atStart =>
    have := A1.out
    have := A2.out
    have := A6.out
    refine ⟨u / (Y / 4294967296), u - u / (Y / 4294967296) * (Y / 4294967296), a4, A1.out, by omega, by omega, Lib.hid (by omega), A2.out, ?_, ?_⟩
    · first | rfl | (congr 1; rw [IntKind.wrap_u64, Int.tdiv_eq_ediv_of_nonneg (by omega)]; omega)
    · first | rfl | (congr 1; rw [IntKind.wrap_u64, IntKind.wrap_u64]; omega) | (congr 1; rw [Int.tdiv_eq_ediv_of_nonneg (by omega)]; simp only [IntKind.wrap_u64]; omega)
  case round =>
    obtain ⟨Q, R, q0, q1, r0, r1, E, tq, rfl, rfl⟩ := hrel
    have hYY : Y = Y / 4294967296 * 4294967296 + Y % 4294967296 := by omega
    by_cases c : 4294967296 ≤ Q
    · by_cases c2 : 4294967296 ≤ R + Y / 4294967296
      · have k := Pl.kn_break (u := u) (q := Q - 1) (r := R + Y / 4294967296) (v := V / 4294967296) hYY (by omega) (by omega) (by omega) (by omega) (by have := E.out; rw [Int.sub_mul]; omega) (by omega) (by omega) c2
        rw [hT.out] at k
        obtain rfl : Q = T + 1 := by omega
        clear k hYY
        go_wp2
        go_loop [18, 16] (fun q r => ∃ (Q R : Int), 0 ≤ Q ∧ Q ≤ 4294967297 ∧ 0 ≤ R ∧ R < 4294967296 ∧ Hid (Q * (Y / 4294967296) + R = N) ∧ T2 ≤ Q ∧ q = .int .u64 Q ∧ r = .int .u64 R) (fun q _ => (intOf q).toNat)
        case atStart =>
          have := B1.out
          have := B2.out
          have := B6.out
          refine ⟨N / (Y / 4294967296), N - N / (Y / 4294967296) * (Y / 4294967296), b4, B1.out, by omega, by omega, Lib.hid (by omega), B2.out, ?_, ?_⟩
          · first | rfl | (congr 1; rw [IntKind.wrap_u64, Int.tdiv_eq_ediv_of_nonneg (by omega)]; omega)
          · first | rfl | (congr 1; rw [IntKind.wrap_u64, IntKind.wrap_u64]; omega) | (congr 1; rw [Int.tdiv_eq_ediv_of_nonneg (by omega)]; simp only [IntKind.wrap_u64]; omega)
        case round =>
          obtain ⟨Q, R, q0, q1, r0, r1, E, tq, rfl, rfl⟩ := hrel
          have hYY : Y = Y / 4294967296 * 4294967296 + Y % 4294967296 := by omega
          by_cases c : 4294967296 ≤ Q
          · by_cases c2 : 4294967296 ≤ R + Y / 4294967296
            · have k := Pl.kn_break (u := N) (q := Q - 1) (r := R + Y / 4294967296) (v := V % 4294967296) hYY (by omega) (by omega) (by omega) (by omega) (by have := E.out; rw [Int.sub_mul]; omega) (by omega) (by omega) c2
              rw [hT2.out] at k
              obtain rfl : Q = T2 + 1 := by omega
              clear k hYY
              go_wp2
              go_ret2
              exact ⟨rfl, rfl⟩
            · clear hYY
              go_wp2
              go_round
              case rel => exact ⟨Q - 1, R + Y / 4294967296, by omega, by omega, by omega, by omega, Lib.hid (by have := E.out; rw [Int.sub_mul]; omega), by omega, rfl, rfl⟩
              case measure => simp [intOf] <;> omega
          · have hm := Pl.kn_mul_le (y0 := Y % 4294967296) q0 (by omega) (by omega) (by omega)
            obtain ⟨m0, m1⟩ := hm
            by_cases c3 : 4294967296 * R + V % 4294967296 < Q * (Y % 4294967296)
            · have g := Pl.kn_gt (u := N) (v := V % 4294967296) hYY (by omega) (by omega) E.out c3
              rw [hT2.out] at g
              by_cases c2 : 4294967296 ≤ R + Y / 4294967296
              · have k := Pl.kn_break (u := N) (q := Q - 1) (r := R + Y / 4294967296) (v := V % 4294967296) hYY (by omega) (by omega) (by omega) (by omega) (by have := E.out; rw [Int.sub_mul]; omega) (by omega) (by omega) c2
                rw [hT2.out] at k
                obtain rfl : Q = T2 + 1 := by omega
                clear k hYY
                go_wp2
                go_ret2
                exact ⟨rfl, rfl⟩
              · clear hYY
                go_wp2
                go_round
                case rel => exact ⟨Q - 1, R + Y / 4294967296, by omega, by omega, by omega, by omega, Lib.hid (by have := E.out; rw [Int.sub_mul]; omega), by omega, rfl, rfl⟩
                case measure => simp [intOf] <;> omega
            · have k := Pl.kn_le (u := N) (v := V % 4294967296) hYY (by omega) (by omega) E.out (by omega)
              rw [hT2.out] at k
              obtain rfl : Q = T2 := by omega
              clear k hYY
              go_wp2
              go_ret2
              exact ⟨rfl, rfl⟩
      · clear hYY
        go_wp2
        go_round
        case rel => exact ⟨Q - 1, R + Y / 4294967296, by omega, by omega, by omega, by omega, Lib.hid (by have := E.out; rw [Int.sub_mul]; omega), by omega, rfl, rfl⟩
        case measure => simp [intOf] <;> omega
    · have hm := Pl.kn_mul_le (y0 := Y % 4294967296) q0 (by omega) (by omega) (by omega)
      obtain ⟨m0, m1⟩ := hm
      by_cases c3 : 4294967296 * R + V / 4294967296 < Q * (Y % 4294967296)
      · have g := Pl.kn_gt (u := u) (v := V / 4294967296) hYY (by omega) (by omega) E.out c3
        rw [hT.out] at g
        by_cases c2 : 4294967296 ≤ R + Y / 4294967296
        · have k := Pl.kn_break (u := u) (q := Q - 1) (r := R + Y / 4294967296) (v := V / 4294967296) hYY (by omega) (by omega) (by omega) (by omega) (by have := E.out; rw [Int.sub_mul]; omega) (by omega) (by omega) c2
          rw [hT.out] at k
          obtain rfl : Q = T + 1 := by omega
          clear k hYY
          go_wp2
          go_loop [18, 16] (fun q r => ∃ (Q R : Int), 0 ≤ Q ∧ Q ≤ 4294967297 ∧ 0 ≤ R ∧ R < 4294967296 ∧ Hid (Q * (Y / 4294967296) + R = N) ∧ T2 ≤ Q ∧ q = .int .u64 Q ∧ r = .int .u64 R) (fun q _ => (intOf q).toNat)
          case atStart =>
            have := B1.out
            have := B2.out
            have := B6.out
            refine ⟨N / (Y / 4294967296), N - N / (Y / 4294967296) * (Y / 4294967296), b4, B1.out, by omega, by omega, Lib.hid (by omega), B2.out, ?_, ?_⟩
            · first | rfl | (congr 1; rw [IntKind.wrap_u64, Int.tdiv_eq_ediv_of_nonneg (by omega)]; omega)
            · first | rfl | (congr 1; rw [IntKind.wrap_u64, IntKind.wrap_u64]; omega) | (congr 1; rw [Int.tdiv_eq_ediv_of_nonneg (by omega)]; simp only [IntKind.wrap_u64]; omega)
          case round =>
            obtain ⟨Q, R, q0, q1, r0, r1, E, tq, rfl, rfl⟩ := hrel
            have hYY : Y = Y / 4294967296 * 4294967296 + Y % 4294967296 := by omega
            by_cases c : 4294967296 ≤ Q
            · by_cases c2 : 4294967296 ≤ R + Y / 4294967296
              · have k := Pl.kn_break (u := N) (q := Q - 1) (r := R + Y / 4294967296) (v := V % 4294967296) hYY (by omega) (by omega) (by omega) (by omega) (by have := E.out; rw [Int.sub_mul]; omega) (by omega) (by omega) c2
                rw [hT2.out] at k
                obtain rfl : Q = T2 + 1 := by omega
                clear k hYY
                go_wp2
                go_ret2
                exact ⟨rfl, rfl⟩
              · clear hYY
                go_wp2
                go_round
                case rel => exact ⟨Q - 1, R + Y / 4294967296, by omega, by omega, by omega, by omega, Lib.hid (by have := E.out; rw [Int.sub_mul]; omega), by omega, rfl, rfl⟩
                case measure => simp [intOf] <;> omega
            · have hm := Pl.kn_mul_le (y0 := Y % 4294967296) q0 (by omega) (by omega) (by omega)
              obtain ⟨m0, m1⟩ := hm
              by_cases c3 : 4294967296 * R + V % 4294967296 < Q * (Y % 4294967296)
              · have g := Pl.kn_gt (u := N) (v := V % 4294967296) hYY (by omega) (by omega) E.out c3
                rw [hT2.out] at g
                by_cases c2 : 4294967296 ≤ R + Y / 4294967296
                · have k := Pl.kn_break (u := N) (q := Q - 1) (r := R + Y / 4294967296) (v := V % 4294967296) hYY (by omega) (by omega) (by omega) (by omega) (by have := E.out; rw [Int.sub_mul]; omega) (by omega) (by omega) c2
                  rw [hT2.out] at k
                  obtain rfl : Q = T2 + 1 := by omega
                  clear k hYY
                  go_wp2
                  go_ret2
                  exact ⟨rfl, rfl⟩
                · clear hYY
                  go_wp2
                  go_round
                  case rel => exact ⟨Q - 1, R + Y / 4294967296, by omega, by omega, by omega, by omega, Lib.hid (by have := E.out; rw [Int.sub_mul]; omega), by omega, rfl, rfl⟩
                  case measure => simp [intOf] <;> omega
              · have k := Pl.kn_le (u := N) (v := V % 4294967296) hYY (by omega) (by omega) E.out (by omega)
                rw [hT2.out] at k
                obtain rfl : Q = T2 := by omega
                clear k hYY
                go_wp2
                go_ret2
                exact ⟨rfl, rfl⟩
        · clear hYY
          go_wp2
          go_round
          case rel => exact ⟨Q - 1, R + Y / 4294967296, by omega, by omega, by omega, by omega, Lib.hid (by have := E.out; rw [Int.sub_mul]; omega), by omega, rfl, rfl⟩
          case measure => simp [intOf] <;> omega
      · have k := Pl.kn_le (u := u) (v := V / 4294967296) hYY (by omega) (by omega) E.out (by omega)
        rw [hT.out] at k
        obtain rfl : Q = T := by omega
        clear k hYY
        go_wp2
        go_loop [18, 16] (fun q r => ∃ (Q R : Int), 0 ≤ Q ∧ Q ≤ 4294967297 ∧ 0 ≤ R ∧ R < 4294967296 ∧ Hid (Q * (Y / 4294967296) + R = N) ∧ T2 ≤ Q ∧ q = .int .u64 Q ∧ r = .int .u64 R) (fun q _ => (intOf q).toNat)
        case atStart =>
          have := B1.out
          have := B2.out
          have := B6.out
          refine ⟨N / (Y / 4294967296), N - N / (Y / 4294967296) * (Y / 4294967296), b4, B1.out, by omega, by omega, Lib.hid (by omega), B2.out, ?_, ?_⟩
          · first | rfl | (congr 1; rw [IntKind.wrap_u64, Int.tdiv_eq_ediv_of_nonneg (by omega)]; omega)
          · first | rfl | (congr 1; rw [IntKind.wrap_u64, IntKind.wrap_u64]; omega) | (congr 1; rw [Int.tdiv_eq_ediv_of_nonneg (by omega)]; simp only [IntKind.wrap_u64]; omega)
        case round =>
          obtain ⟨Q, R, q0, q1, r0, r1, E, tq, rfl, rfl⟩ := hrel
          have hYY : Y = Y / 4294967296 * 4294967296 + Y % 4294967296 := by omega
          by_cases c : 4294967296 ≤ Q
          · by_cases c2 : 4294967296 ≤ R + Y / 4294967296
            · have k := Pl.kn_break (u := N) (q := Q - 1) (r := R + Y / 4294967296) (v := V % 4294967296) hYY (by omega) (by omega) (by omega) (by omega) (by have := E.out; rw [Int.sub_mul]; omega) (by omega) (by omega) c2
              rw [hT2.out] at k
              obtain rfl : Q = T2 + 1 := by omega
              clear k hYY
              go_wp2
              go_ret2
              exact ⟨rfl, rfl⟩
            · clear hYY
              go_wp2
              go_round
              case rel => exact ⟨Q - 1, R + Y / 4294967296, by omega, by omega, by omega, by omega, Lib.hid (by have := E.out; rw [Int.sub_mul]; omega), by omega, rfl, rfl⟩
              case measure => simp [intOf] <;> omega
          · have hm := Pl.kn_mul_le (y0 := Y % 4294967296) q0 (by omega) (by omega) (by omega)
            obtain ⟨m0, m1⟩ := hm
            by_cases c3 : 4294967296 * R + V % 4294967296 < Q * (Y % 4294967296)
            · have g := Pl.kn_gt (u := N) (v := V % 4294967296) hYY (by omega) (by omega) E.out c3
              rw [hT2.out] at g
              by_cases c2 : 4294967296 ≤ R + Y / 4294967296
              · have k := Pl.kn_break (u := N) (q := Q - 1) (r := R + Y / 4294967296) (v := V % 4294967296) hYY (by omega) (by omega) (by omega) (by omega) (by have := E.out; rw [Int.sub_mul]; omega) (by omega) (by omega) c2
                rw [hT2.out] at k
                obtain rfl : Q = T2 + 1 := by omega
                clear k hYY
                go_wp2
                go_ret2
                exact ⟨rfl, rfl⟩
              · clear hYY
                go_wp2
                go_round
                case rel => exact ⟨Q - 1, R + Y / 4294967296, by omega, by omega, by omega, by omega, Lib.hid (by have := E.out; rw [Int.sub_mul]; omega), by omega, rfl, rfl⟩
                case measure => simp [intOf] <;> omega
            · have k := Pl.kn_le (u := N) (v := V % 4294967296) hYY (by omega) (by omega) E.out (by omega)
              rw [hT2.out] at k
              obtain rfl : Q = T2 := by omega
              clear k hYY
              go_wp2
              go_ret2
              exact ⟨rfl, rfl⟩
end Go.Proofs.YtfmmomdmemcbbaaGreat
namespace Go.Proofs.YtfmmomdmemcbbaaGreat
set_option linter.unusedVariables false
open Go.RowKit
theorem div64_small (lo y : Int) (h1 : 0 < y) (y1 : y ≤ 18446744073709551615) (l0 : 0 ≤ lo) (l1 : lo ≤ 18446744073709551615) (w : World) :
    Calls Tryz.prog 142 #[.int .u64 0, .int .u64 lo, .int .u64 y] w fun e w' => e = .returned (.tuple #[.int .u64 (lo / y), .int .u64 (lo % y)]) ∧ Grown w w' := by
  have q0 : 0 ≤ lo / y := Int.ediv_nonneg l0 (by omega)
  have q1 : lo / y ≤ lo := Int.ediv_le_self _ l0
  have e1 : lo.tdiv y = lo / y := Int.tdiv_eq_ediv_of_nonneg l0
  have e2 : lo.tmod y = lo % y := Int.tmod_eq_emod_of_nonneg l0
  have n0 : (y == 0) = false := by rw [beq_eq_false_iff_ne]; omega
  have m0 := Int.emod_nonneg lo (show y ≠ 0 by omega)
  have m1 := Int.emod_lt_of_pos lo h1
  have w1 : IntKind.u64.wrap (lo / y) = lo / y := by rw [IntKind.wrap_u64]; omega
  have w2 : IntKind.u64.wrap (lo % y) = lo % y := by rw [IntKind.wrap_u64]; omega
  go_enter Tryz.func142, Tryz.ntmps142
  go_wp2_with fail
  go_region
  go_wp2
  go_ret2
  exact ⟨rfl, by (repeat (first | exact Grown.refl _ | assumption | apply Grown.drew | apply Grown.alloc))⟩
theorem div64_any (hi lo y : Int) (h0 : 0 ≤ hi) (h1 : hi < y) (y1 : y ≤ 18446744073709551615) (l0 : 0 ≤ lo) (l1 : lo ≤ 18446744073709551615) (w : World) :
    Calls Tryz.prog 142 #[.int .u64 hi, .int .u64 lo, .int .u64 y] w fun e w' =>
      e = .returned (.tuple #[.int .u64 ((hi * 18446744073709551616 + lo) / y), .int .u64 ((hi * 18446744073709551616 + lo) % y)]) ∧ Grown w w' := by
  by_cases hz : hi = 0
  · subst hz
    rw [Int.zero_mul, Int.zero_add]
    exact div64_small lo y h1 y1 l0 l1 w
  obtain ⟨s, es, s63, s0, s1⟩ := Pl.lz_bd y (by omega) y1
  have LZ := fun w => lz64_any y w (by omega) y1
  rw [es] at LZ
  have pK : (0 : Int) < 2 ^ s := Int.pow_pos (by decide)
  have pK' : (0 : Int) < 2 ^ (64 - s) := Int.pow_pos (by decide)
  have KK : (2 : Int) ^ s * 2 ^ (64 - s) = 18446744073709551616 := by rw [← Int.pow_add, show s + (64 - s) = 64 by omega]; decide
  have H0 : 0 ≤ hi * 2 ^ s := Int.mul_nonneg h0 (by omega)
  have H1 : (hi + 1) * 2 ^ s ≤ y * 2 ^ s := Int.mul_le_mul_of_nonneg_right (by omega) (by omega)
  have L0 : 0 ≤ lo / 2 ^ (64 - s) := Int.ediv_nonneg l0 (by omega)
  have L1 : lo / 2 ^ (64 - s) < 2 ^ s := Int.ediv_lt_of_lt_mul pK' (by rw [KK]; omega)
  have hor := Pl.or_shifted_u64 s hi (lo / 2 ^ (64 - s)) L0 L1 h0 (by rw [Int.add_mul] at H1; omega)
  have W := Pl.kn_words hi lo _ _ pK pK' KK l0 (by omega)
  obtain ⟨sc1, sc2⟩ := Pl.kn_scale (hi * 18446744073709551616 + lo) y (2 ^ s) pK
  rw [Int.add_mul hi 1, Int.one_mul] at H1
  rw [W] at sc1 sc2
  rw [← sc1, ← sc2]
  clear sc1 sc2 W
  obtain ⟨Y, hY⟩ : ∃ Y, y * 2 ^ s = Y := ⟨_, rfl⟩
  obtain ⟨H, hH⟩ : ∃ H, hi * 2 ^ s = H := ⟨_, rfl⟩
  obtain ⟨L, hL⟩ : ∃ L, lo / 2 ^ (64 - s) = L := ⟨_, rfl⟩
  obtain ⟨V, hV⟩ : ∃ V, lo * 2 ^ s % 18446744073709551616 = V := ⟨_, rfl⟩
  rw [hY, hH, hL, hV]
  rw [hH] at H0 H1
  rw [hY] at s0 s1 H1
  rw [hL] at L0 L1
  rw [hH, hL] at hor
  have V0 : 0 ≤ V := by omega
  have V1 : V ≤ 18446744073709551615 := by omega
  obtain ⟨k1, k2⟩ := Pl.kn_two (H := H + L) (L := V) (Y := Y) (v1 := V / 4294967296) (v0 := V % 4294967296) (by omega) (by omega) (by omega) (by omega) (by omega) (by omega)
  rw [k1, k2]
  clear k1 k2
  have d1 := Int.mul_ediv_add_emod ((H + L) * 4294967296 + V / 4294967296) Y
  have n0 := Int.emod_nonneg ((H + L) * 4294967296 + V / 4294967296) (show Y ≠ 0 by omega)
  have n1 := Int.emod_lt_of_pos ((H + L) * 4294967296 + V / 4294967296) (show 0 < Y by omega)
  obtain ⟨T, hT⟩ : ∃ T, ((H + L) * 4294967296 + V / 4294967296) / Y = T := ⟨_, rfl⟩
  obtain ⟨N, hN⟩ : ∃ N, ((H + L) * 4294967296 + V / 4294967296) % Y = N := ⟨_, rfl⟩
  rw [hT, hN] at d1
  rw [hN] at n0 n1
  rw [hT, hN]
  have d2 := Int.mul_ediv_add_emod (N * 4294967296 + V % 4294967296) Y
  have m0 := Int.emod_nonneg (N * 4294967296 + V % 4294967296) (show Y ≠ 0 by omega)
  have m1 := Int.emod_lt_of_pos (N * 4294967296 + V % 4294967296) (show 0 < Y by omega)
  obtain ⟨T2, hT2⟩ : ∃ T, (N * 4294967296 + V % 4294967296) / Y = T := ⟨_, rfl⟩
  obtain ⟨M, hM⟩ : ∃ N', (N * 4294967296 + V % 4294967296) % Y = N' := ⟨_, rfl⟩
  rw [hT2, hM] at d2
  rw [hM] at m0 m1
  rw [hT2, hM]
  refine (div64_core hi lo y Y H L (H + L) V T N T2 M s s63 (by omega) h1 y1 l0 l1 (Lib.hid LZ) hY s0 s1 hH H0 (by omega) hL hor (by omega) (by omega) (by rw [IntKind.wrap_u64]; exact hV) V0 V1 (Lib.hid hT) ?_ n0 n1 (Lib.hid hT2) ?_ w).mono fun e W ⟨he, hw⟩ => ⟨he, hw ▸ Grown.refl _⟩
  · simp only [IntKind.wrap_u64]
    rw [Int.mul_comm T Y]
    generalize Y * T = P at *
    generalize H + L = u at *
    clear hT hN hM hT2 hV hY hH hL hor es LZ pK pK' KK d2 s0 m0 m1
    omega
  · simp only [IntKind.wrap_u64]
    rw [Int.mul_comm T2 Y]
    generalize Y * T2 = P at *
    clear hT hN hM hT2 hV hY hH hL hor es LZ pK pK' KK d1 s0
    omega
end Go.Proofs.YtfmmomdmemcbbaaGreat
namespace Go.Proofs.YtfmmomdmemcbbaaGreat
set_option linter.unusedVariables false
open Go.RowKit
end Go.Proofs.YtfmmomdmemcbbaaGreat
namespace Go.Proofs.YtfmmomdmemcbbaaGreat
set_option linter.unusedVariables false
open Go.RowKit
theorem signedr_pos (q : Int) (q0 : 0 ≤ q) (h : q ≤ 9223372036854775807) (w : World) :
    Calls Tryz.prog 137 #[.int .u64 q, .bool false] w fun e w' => e = .returned (.tuple #[.int .i64 q, .bool true]) ∧ w = w' := by
  by_cases hz : q = 0
  · subst hz
    go_enter Tryz.func137, Tryz.ntmps137
    go_wp2
    go_ret2
    exact ⟨rfl, rfl⟩
  have z : (q == 0) = false := beq_eq_false_iff_ne.2 hz
  go_enter Tryz.func137, Tryz.ntmps137
  go_wp2
  go_ret2
  exact ⟨rfl, rfl⟩
theorem signedr_neg (q : Int) (q0 : 0 ≤ q) (h : q ≤ 9223372036854775808) (w : World) :
    Calls Tryz.prog 137 #[.int .u64 q, .bool true] w fun e w' => e = .returned (.tuple #[.int .i64 (-q), .bool true]) ∧ w = w' := by
  by_cases hz : q = 0
  · subst hz
    go_enter Tryz.func137, Tryz.ntmps137
    go_wp2
    go_ret2
    exact ⟨rfl, rfl⟩
  have z : (q == 0) = false := beq_eq_false_iff_ne.2 hz
  have q1 : 1 ≤ q := by omega
  go_enter Tryz.func137, Tryz.ntmps137
  go_wp2
  go_ret2
  exact ⟨ret_ib (by omega) rfl, rfl⟩
theorem signedr_no (q : Int) (m : Bool) (q1 : q ≤ 18446744073709551615) (h : (m = false ∧ 9223372036854775807 < q) ∨ (m = true ∧ 9223372036854775808 < q)) (w : World) :
    Calls Tryz.prog 137 #[.int .u64 q, .bool m] w fun e w' => e = .returned (.tuple #[.int .i64 0, .bool false]) ∧ w = w' := by
  have z : (q == 0) = false := beq_eq_false_iff_ne.2 (by omega)
  rcases h with ⟨rfl, h⟩ | ⟨rfl, h⟩
  all_goals
    go_enter Tryz.func137, Tryz.ntmps137
    go_wp2
    go_ret2
    exact ⟨rfl, rfl⟩
theorem sharer_no (a b d : Int) (ha : Pl.i64 a) (hb : Pl.i64 b) (hd : Pl.i64 d) (h : Pl.mag d ≤ Pl.mag a * Pl.mag b / 18446744073709551616) (w : World) :
    Calls Tryz.prog 135 #[.int .i64 a, .int .i64 b, .int .i64 d] w fun e w' => e = .returned (.tuple #[.int .u64 0, .int .u64 0, .bool false, .bool false]) ∧ Grown w w' := by
  have ma := Pl.mag_nn a
  have mb := Pl.mag_nn b
  have ma' := Pl.mag_le a ha.1 ha.2
  have mb' := Pl.mag_le b hb.1 hb.2
  obtain ⟨P, hP⟩ : ∃ P, Pl.mag a * Pl.mag b = P := ⟨_, rfl⟩
  have M := fun w => mul64_any (Pl.mag a) (Pl.mag b) ⟨ma, by omega⟩ ⟨mb, by omega⟩ w
  rw [hP] at M h
  have M := Lib.hid M
  have A := Lib.hid (mag1_any a ha)
  have B := Lib.hid (mag1_any b hb)
  have D := Lib.hid (mag1_any d hd)
  clear ha hb hd ma mb ma' mb' hP
  go_enter Tryz.func135, Tryz.ntmps135
  go_wp2_with fail
  refine (A.out _).mono ?_
  rintro e w1 ⟨rfl, rfl⟩
  go_wp2_with fail
  refine (B.out _).mono ?_
  rintro e w1 ⟨rfl, rfl⟩
  go_wp2_with fail
  refine (M.out _).mono ?_
  rintro e w1 ⟨rfl, rfl⟩
  go_wp2_with fail
  refine (D.out _).mono ?_
  rintro e w1 ⟨rfl, rfl⟩
  go_wp2
  refine bodyPost_ret (v := .tuple #[.int .u64 0, .int .u64 0, .bool false, .bool false]) (by simp [results, Tryz.results135, go_sem]) rfl ⟨rfl, Grown.refl _⟩
theorem sharer_ok (a b d P D : Int) (ha : Pl.i64 a) (hb : Pl.i64 b) (hd : Pl.i64 d) (hP : Pl.mag a * Pl.mag b = P) (hD : Pl.mag d = D) (h : P / 18446744073709551616 < D) (w : World) :
    Calls Tryz.prog 135 #[.int .i64 a, .int .i64 b, .int .i64 d] w fun e w' => e = .returned (.tuple #[.int .u64 (P / D), .int .u64 (P % D), .bool (Pl.sgn3 a b d), .bool true]) ∧ Grown w w' := by
  have ma := Pl.mag_nn a
  have mb := Pl.mag_nn b
  have ma' := Pl.mag_le a ha.1 ha.2
  have mb' := Pl.mag_le b hb.1 hb.2
  have md' := Pl.mag_le d hd.1 hd.2
  have P0 : 0 ≤ P := by rw [← hP]; exact Int.mul_nonneg ma mb
  have M := fun w => mul64_any (Pl.mag a) (Pl.mag b) ⟨ma, by omega⟩ ⟨mb, by omega⟩ w
  rw [hP] at M
  have V := fun w => div64_any (P / 18446744073709551616) (P % 18446744073709551616) D (by omega) h (by omega) (by omega) (by omega) w
  rw [show P / 18446744073709551616 * 18446744073709551616 + P % 18446744073709551616 = P from by omega] at V
  have M := Lib.hid M
  have V := Lib.hid V
  have A := Lib.hid (mag1_any a ha)
  have B := Lib.hid (mag1_any b hb)
  have C := mag1_any d hd
  rw [hD] at C
  have C := Lib.hid C
  clear ha hb hd ma mb ma' mb' hP P0 hD
  unfold Pl.sgn3
  cases sa : decide (a < 0) <;> cases sb : decide (b < 0) <;> cases sd : decide (d < 0)
  all_goals
    go_enter Tryz.func135, Tryz.ntmps135
    go_wp2_with fail
    refine (A.out _).mono ?_
    rintro e w1 ⟨rfl, rfl⟩
    go_wp2_with fail
    refine (B.out _).mono ?_
    rintro e w1 ⟨rfl, rfl⟩
    go_wp2_with fail
    refine (M.out _).mono ?_
    rintro e w1 ⟨rfl, rfl⟩
    go_wp2_with fail
    refine (C.out _).mono ?_
    rintro e w1 ⟨rfl, rfl⟩
    go_wp2_with fail
    refine (V.out _).mono ?_
    rintro e w1 ⟨rfl, g1⟩
    go_wp2
    refine bodyPost_ret (v := .tuple #[.int .u64 (P / D), .int .u64 (P % D), .bool _, .bool true]) (by simp [results, Tryz.results135, go_sem]; rfl) rfl ⟨by simp, g1⟩
end Go.Proofs.YtfmmomdmemcbbaaGreat
namespace Go.Proofs.YtfmmomdmemcbbaaGreat
set_option linter.unusedVariables false
open Go.RowKit
theorem signedr_any (q : Int) (m : Bool) (q0 : 0 ≤ q) (q1 : q ≤ 18446744073709551615) : ∃ (v : Int) (ok : Bool),
    (∀ w, Calls Tryz.prog 137 #[.int .u64 q, .bool m] w fun e w' => e = .returned (.tuple #[.int .i64 v, .bool ok]) ∧ w = w') ∧
    ((Pl.i64 (if m = true then -q else q) ∧ v = (if m = true then -q else q) ∧ ok = true) ∨ (¬ Pl.i64 (if m = true then -q else q) ∧ v = 0 ∧ ok = false)) := by
  unfold Pl.i64
  cases m with
  | false =>
    by_cases h : q ≤ 9223372036854775807
    · exact ⟨q, true, fun w => signedr_pos q q0 h w, .inl ⟨by simp; omega, by simp, rfl⟩⟩
    · exact ⟨0, false, fun w => signedr_no q false q1 (.inl ⟨rfl, by omega⟩) w, .inr ⟨by simp; omega, rfl, rfl⟩⟩
  | true =>
    by_cases h : q ≤ 9223372036854775808
    · exact ⟨-q, true, fun w => signedr_neg q q0 h w, .inl ⟨by simp; omega, by simp, rfl⟩⟩
    · exact ⟨0, false, fun w => signedr_no q true q1 (.inr ⟨rfl, by omega⟩) w, .inr ⟨by simp; omega, rfl, rfl⟩⟩
theorem mdr_no (a b d : Int) (SH : Hid (∀ w, Calls Tryz.prog 135 #[.int .i64 a, .int .i64 b, .int .i64 d] w fun e w' => e = .returned (.tuple #[.int .u64 0, .int .u64 0, .bool false, .bool false]) ∧ Grown w w')) (w : World) :
    Calls Tryz.prog 120 #[.int .i64 a, .int .i64 b, .int .i64 d] w fun e w' => e = .returned (.tuple #[.int .i64 0, .bool false]) ∧ Grown w w' := by
  go_enter Tryz.func120, Tryz.ntmps120
  go_wp2_with fail
  refine (SH.out _).mono ?_
  rintro e w1 ⟨rfl, g1⟩
  go_wp2
  go_ret2
  exact ⟨rfl, g1⟩
theorem mdr_core (a b d Q R D L n v : Int) (m ok : Bool) (q0 : 0 ≤ Q) (q1 : Q ≤ 18446744073709551615) (r0 : 0 ≤ R) (r1 : R < D) (D1 : D ≤ 9223372036854775808) (hL : D - R = L)
    (SH : Hid (∀ w, Calls Tryz.prog 135 #[.int .i64 a, .int .i64 b, .int .i64 d] w fun e w' => e = .returned (.tuple #[.int .u64 Q, .int .u64 R, .bool m, .bool true]) ∧ Grown w w'))
    (MG : Hid (∀ w, Calls Tryz.prog 136 #[.int .i64 d] w fun e w' => e = .returned (.int .u64 D) ∧ w = w'))
    (hn : (n = Q + 1 ∧ (L < R ∨ (R = L ∧ Q % 2 = 1))) ∨ (n = Q ∧ ¬ (L < R ∨ (R = L ∧ Q % 2 = 1))))
    (SG : Hid (n ≤ 18446744073709551615 → ∀ w, Calls Tryz.prog 137 #[.int .u64 n, .bool m] w fun e w' => e = .returned (.tuple #[.int .i64 v, .bool ok]) ∧ w = w'))
    (hx : Hid (18446744073709551615 < n → v = 0 ∧ ok = false)) (w : World) :
    Calls Tryz.prog 120 #[.int .i64 a, .int .i64 b, .int .i64 d] w fun e w' => e = .returned (.tuple #[.int .i64 v, .bool ok]) ∧ Grown w w' := by
  have L0 : 0 < L := by omega
  have L1 : L ≤ 9223372036854775808 := by omega
  have t2 := Lib.hid (Int.tmod_eq_emod_of_nonneg (b := 2) q0)
  by_cases hmax : n ≤ 18446744073709551615
  · have SG := Lib.hid (SG.out hmax)
    rcases hn with ⟨rfl, h | ⟨h, h'⟩⟩ | ⟨rfl, h⟩
    · have nm : (Q == 18446744073709551615) = false := beq_eq_false_iff_ne.2 (by omega)
      go_enter Tryz.func120, Tryz.ntmps120
      go_wp2_with fail
      refine (SH.out _).mono ?_
      rintro e w1 ⟨rfl, g1⟩
      go_wp2_with fail
      refine (MG.out _).mono ?_
      rintro e w2 ⟨rfl, rfl⟩
      go_wp2_with fail
      refine (SG.out _).mono ?_
      rintro e w2 ⟨rfl, rfl⟩
      go_wp2
      go_ret2
      exact ⟨rfl, g1⟩
    · have nm : (Q == 18446744073709551615) = false := beq_eq_false_iff_ne.2 (by omega)
      subst h
      obtain rfl : D = R + R := by omega
      have e0 : R + R - R = R := by omega
      have e2 : Q.tmod 2 = 1 := by rw [t2.out]; exact h'
      clear hL h' t2
      go_enter Tryz.func120, Tryz.ntmps120
      go_wp2_with fail
      refine (SH.out _).mono ?_
      rintro e w1 ⟨rfl, g1⟩
      go_wp2_with fail
      refine (MG.out _).mono ?_
      rintro e w2 ⟨rfl, rfl⟩
      go_wp2_with fail
      refine (SG.out _).mono ?_
      rintro e w2 ⟨rfl, rfl⟩
      go_wp2
      go_ret2
      exact ⟨rfl, g1⟩
    · have n1 : ¬ (L < R) := by omega
      by_cases h1 : R = L
      · have e2 : n.tmod 2 = 0 := by rw [t2.out]; omega
        subst h1
        obtain rfl : D = R + R := by omega
        have e0 : R + R - R = R := by omega
        clear hL h t2 n1
        go_enter Tryz.func120, Tryz.ntmps120
        go_wp2_with fail
        refine (SH.out _).mono ?_
        rintro e w1 ⟨rfl, g1⟩
        go_wp2_with fail
        refine (MG.out _).mono ?_
        rintro e w2 ⟨rfl, rfl⟩
        go_wp2_with fail
        refine (SG.out _).mono ?_
        rintro e w2 ⟨rfl, rfl⟩
        go_wp2
        go_ret2
        exact ⟨rfl, g1⟩
      · have e1 : (R == L) = false := beq_eq_false_iff_ne.2 h1
        have h1 := Lib.hid h1
        have h := Lib.hid h
        go_enter Tryz.func120, Tryz.ntmps120
        go_wp2_with fail
        refine (SH.out _).mono ?_
        rintro e w1 ⟨rfl, g1⟩
        go_wp2_with fail
        refine (MG.out _).mono ?_
        rintro e w2 ⟨rfl, rfl⟩
        go_wp2_with fail
        refine (SG.out _).mono ?_
        rintro e w2 ⟨rfl, rfl⟩
        go_wp2
        go_ret2
        exact ⟨rfl, g1⟩
  · obtain ⟨rfl, rfl⟩ := hx.out (by omega)
    rcases hn with ⟨rfl, h | ⟨h, h'⟩⟩ | ⟨rfl, h⟩
    · have nm : (Q == 18446744073709551615) = true := beq_iff_eq.2 (by omega)
      go_enter Tryz.func120, Tryz.ntmps120
      go_wp2_with fail
      refine (SH.out _).mono ?_
      rintro e w1 ⟨rfl, g1⟩
      go_wp2_with fail
      refine (MG.out _).mono ?_
      rintro e w2 ⟨rfl, rfl⟩
      go_wp2
      go_ret2
      exact ⟨rfl, g1⟩
    · have nm : (Q == 18446744073709551615) = true := beq_iff_eq.2 (by omega)
      subst h
      obtain rfl : D = R + R := by omega
      have e0 : R + R - R = R := by omega
      have e2 : Q.tmod 2 = 1 := by rw [t2.out]; exact h'
      clear hL h' t2
      go_enter Tryz.func120, Tryz.ntmps120
      go_wp2_with fail
      refine (SH.out _).mono ?_
      rintro e w1 ⟨rfl, g1⟩
      go_wp2_with fail
      refine (MG.out _).mono ?_
      rintro e w2 ⟨rfl, rfl⟩
      go_wp2
      go_ret2
      exact ⟨rfl, g1⟩
    · omega
theorem muldiv2_ex (a b d : Int) (ha : Pl.i64 a) (hb : Pl.i64 b) (hd : Pl.i64 d) : ∃ (v : Int) (ok : Bool),
    (∀ w, Calls Tryz.prog 111 #[.int .i64 a, .int .i64 b, .int .i64 d] w fun e w' => e = .returned (.tuple #[.int .i64 v, .bool ok]) ∧ Grown w w') ∧
    (∀ w, Calls Tryz.prog 120 #[.int .i64 a, .int .i64 b, .int .i64 d] w fun e w' => e = .returned (.tuple #[.int .i64 v, .bool ok]) ∧ Grown w w') ∧
    ((d ≠ 0 ∧ Pl.i64 (Pl.share a b d) ∧ v = Pl.share a b d ∧ ok = true) ∨ ((d = 0 ∨ ¬ Pl.i64 (Pl.share a b d)) ∧ v = 0 ∧ ok = false)) := by
  have P0 : 0 ≤ Pl.mag a * Pl.mag b := Int.mul_nonneg (Pl.mag_nn a) (Pl.mag_nn b)
  have D0 := Pl.mag_nn d
  have D1 := Pl.mag_le d hd.1 hd.2
  by_cases hlt : Pl.mag a * Pl.mag b / 18446744073709551616 < Pl.mag d
  · have h0 : d ≠ 0 := by
      rintro rfl
      have : Pl.mag 0 = 0 := rfl
      omega
    have sh := fun w => sharer_ok a b d _ _ ha hb hd rfl rfl hlt w
    have mg := mag1_any d hd
    have nb := Pl.near_bd (Pl.mag a * Pl.mag b) (Pl.mag d) P0 (by omega)
    have q1 : Pl.mag a * Pl.mag b / Pl.mag d < 18446744073709551616 := Int.ediv_lt_of_lt_mul (by omega) (by
      have := Int.mul_ediv_add_emod (Pl.mag a * Pl.mag b) 18446744073709551616
      have := Int.emod_lt_of_pos (Pl.mag a * Pl.mag b) (show (0 : Int) < 18446744073709551616 by decide)
      omega)
    have r0 := Int.emod_nonneg (Pl.mag a * Pl.mag b) (show Pl.mag d ≠ 0 by omega)
    have r1 := Int.emod_lt_of_pos (Pl.mag a * Pl.mag b) (show 0 < Pl.mag d by omega)
    obtain ⟨n, hn⟩ : ∃ n, Pl.near (Pl.mag a * Pl.mag b) (Pl.mag d) = n := ⟨_, rfl⟩
    have hs : Pl.share a b d = if Pl.sgn3 a b d = true then -n else n := by unfold Pl.share; rw [hn]
    have hc : (n = Pl.mag a * Pl.mag b / Pl.mag d + 1 ∧ (Pl.mag d - Pl.mag a * Pl.mag b % Pl.mag d < Pl.mag a * Pl.mag b % Pl.mag d ∨ (Pl.mag a * Pl.mag b % Pl.mag d = Pl.mag d - Pl.mag a * Pl.mag b % Pl.mag d ∧ Pl.mag a * Pl.mag b / Pl.mag d % 2 = 1))) ∨ (n = Pl.mag a * Pl.mag b / Pl.mag d ∧ ¬ (Pl.mag d - Pl.mag a * Pl.mag b % Pl.mag d < Pl.mag a * Pl.mag b % Pl.mag d ∨ (Pl.mag a * Pl.mag b % Pl.mag d = Pl.mag d - Pl.mag a * Pl.mag b % Pl.mag d ∧ Pl.mag a * Pl.mag b / Pl.mag d % 2 = 1))) := by
      rw [← hn]
      unfold Pl.near
      split
      · exact .inl ⟨rfl, by assumption⟩
      · exact .inr ⟨rfl, by assumption⟩
    rw [hn] at nb
    obtain ⟨v, ok, hv, SG, hx⟩ : ∃ (v : Int) (ok : Bool), ((Pl.i64 (Pl.share a b d) ∧ v = Pl.share a b d ∧ ok = true) ∨ (¬ Pl.i64 (Pl.share a b d) ∧ v = 0 ∧ ok = false)) ∧
        (n ≤ 18446744073709551615 → ∀ w, Calls Tryz.prog 137 #[.int .u64 n, .bool (Pl.sgn3 a b d)] w fun e w' => e = .returned (.tuple #[.int .i64 v, .bool ok]) ∧ w = w') ∧
        (18446744073709551615 < n → v = 0 ∧ ok = false) := by
      by_cases hm : n ≤ 18446744073709551615
      · obtain ⟨v, ok, S, h⟩ := signedr_any n (Pl.sgn3 a b d) (by omega) hm
        rw [← hs] at h
        exact ⟨v, ok, h, fun _ => S, fun h' => by omega⟩
      · refine ⟨0, false, .inr ⟨?_, rfl, rfl⟩, fun h => absurd h hm, fun _ => ⟨rfl, rfl⟩⟩
        rw [hs]
        unfold Pl.i64
        split <;> omega
    refine ⟨v, ok, ?_, fun w => mdr_core a b d _ _ _ _ n v _ ok nb.2.2 (by omega) r0 r1 D1 rfl (Lib.hid sh) (Lib.hid mg) hc (Lib.hid SG) (Lib.hid hx) w, ?_⟩
    · rcases hv with ⟨h, rfl, rfl⟩ | ⟨h, rfl, rfl⟩
      · exact fun w => muldiv_ok a b d ha hb hd h0 h w
      · exact fun w => muldiv_no a b d ha hb hd (.inr h) w
    · rcases hv with ⟨h, rfl, rfl⟩ | ⟨h, rfl, rfl⟩
      · exact .inl ⟨h0, h, rfl, rfl⟩
      · exact .inr ⟨.inr h, rfl, rfl⟩
  · have hno : d = 0 ∨ ¬ Pl.i64 (Pl.share a b d) := by
      by_cases h0 : d = 0
      · exact .inl h0
      · exact .inr fun h => hlt (Pl.share_fits a b d ha hb hd h0 h)
    exact ⟨0, false, fun w => muldiv_no a b d ha hb hd hno w, fun w => mdr_no a b d (Lib.hid fun w => sharer_no a b d ha hb hd (by omega) w) w, .inr ⟨hno, rfl, rfl⟩⟩
end Go.Proofs.YtfmmomdmemcbbaaGreat
namespace Go.Proofs.YtfmmomdmemcbbaaGreat
set_option linter.unusedVariables false
open Go.RowKit
theorem Pl.and_16_i64 (x : Int) : bits .and .i64 x 65535 = x % 65536 := by
  have h1 := Pl.toNat_ofInt64 x
  show IntKind.i64.wrap ((BitVec.ofInt 64 x &&& BitVec.ofInt 64 65535).toNat : Int) = _
  have e : (BitVec.ofInt 64 65535).toNat = 2 ^ 16 - 1 := by decide
  rw [BitVec.toNat_and, e, Nat.and_two_pow_sub_one_eq_mod, IntKind.wrap_i64]
  generalize (BitVec.ofInt 64 x).toNat = N at *
  have : ((N % 2 ^ 16 : Nat) : Int) = (N : Int) % 65536 := by simp
  rw [this, h1]
  omega
attribute [go_sem] Pl.and_1_i64 Pl.and_16_i64
theorem r3held_false (v : Int) (w : World) : Calls Tryz.prog 119 #[.int .i64 v, .bool false] w fun e w' => e = .returned (.tuple #[.int .i64 0, .bool false]) ∧ w = w' := by
  go_enter Tryz.func119, Tryz.ntmps119
  go_wp2
  go_ret2
  exact ⟨rfl, rfl⟩
theorem r3may_yes (v : Int) (h : Pl.fx v) (w : World) : Calls Tryz.prog 117 #[.int .i64 v] w fun e w' => e = .returned (.bool true) ∧ w = w' := r3may_any v true (by unfold Pl.fx at h; simp [h]) w
theorem r3may_no (v : Int) (h : ¬ Pl.fx v) (w : World) : Calls Tryz.prog 117 #[.int .i64 v] w fun e w' => e = .returned (.bool false) ∧ w = w' := r3may_any v false (by unfold Pl.fx at h; simp; omega) w
theorem radd3_by (a b v : Int) (ok : Bool) (ha : Pl.fx a) (hb : Pl.fx b) (H : Hid (∀ w, Calls Tryz.prog 119 #[.int .i64 (a + b), .bool true] w fun e w' => e = .returned (.tuple #[.int .i64 v, .bool ok]) ∧ w = w')) (w : World) : Calls Tryz.prog 91 #[.int .i64 a, .int .i64 b] w fun e w' => e = .returned (.tuple #[.int .i64 v, .bool ok]) ∧ Grown w w' := by
  have A := Lib.hid (r3may_yes a ha)
  have B := Lib.hid (r3may_yes b hb)
  unfold Pl.fx at ha hb
  obtain ⟨a0, a1⟩ := ha
  obtain ⟨b0, b1⟩ := hb
  go_enter Tryz.func91, Tryz.ntmps91
  go_wp2_with fail
  refine (A.out _).mono ?_
  rintro e w1 ⟨rfl, rfl⟩
  go_wp2_with fail
  refine (B.out _).mono ?_
  rintro e w1 ⟨rfl, rfl⟩
  go_wp2_with fail
  refine (H.out _).mono ?_
  rintro e w1 ⟨rfl, rfl⟩
  go_wp2_with fail
  go_ret2
  exact ⟨rfl, Grown.refl _⟩
theorem rsub3_by (a b v : Int) (ok : Bool) (ha : Pl.fx a) (hb : Pl.fx b) (H : Hid (∀ w, Calls Tryz.prog 119 #[.int .i64 (a - b), .bool true] w fun e w' => e = .returned (.tuple #[.int .i64 v, .bool ok]) ∧ w = w')) (w : World) : Calls Tryz.prog 92 #[.int .i64 a, .int .i64 b] w fun e w' => e = .returned (.tuple #[.int .i64 v, .bool ok]) ∧ Grown w w' := by
  have A := Lib.hid (r3may_yes a ha)
  have B := Lib.hid (r3may_yes b hb)
  unfold Pl.fx at ha hb
  obtain ⟨a0, a1⟩ := ha
  obtain ⟨b0, b1⟩ := hb
  go_enter Tryz.func92, Tryz.ntmps92
  go_wp2_with fail
  refine (A.out _).mono ?_
  rintro e w1 ⟨rfl, rfl⟩
  go_wp2_with fail
  refine (B.out _).mono ?_
  rintro e w1 ⟨rfl, rfl⟩
  go_wp2_with fail
  refine (H.out _).mono ?_
  rintro e w1 ⟨rfl, rfl⟩
  go_wp2_with fail
  go_ret2
  exact ⟨rfl, Grown.refl _⟩
theorem rmul3_by (a b u v : Int) (is ok : Bool) (ha : Pl.fx a) (hb : Pl.fx b) (M : Hid (∀ w, Calls Tryz.prog 120 #[.int .i64 a, .int .i64 b, .int .i64 65536] w fun e w' => e = .returned (.tuple #[.int .i64 u, .bool is]) ∧ Grown w w'))
    (H : Hid (∀ w, Calls Tryz.prog 119 #[.int .i64 u, .bool is] w fun e w' => e = .returned (.tuple #[.int .i64 v, .bool ok]) ∧ w = w')) (w : World) : Calls Tryz.prog 93 #[.int .i64 a, .int .i64 b] w fun e w' => e = .returned (.tuple #[.int .i64 v, .bool ok]) ∧ Grown w w' := by
  have A := Lib.hid (r3may_yes a ha)
  have B := Lib.hid (r3may_yes b hb)
  clear ha hb
  go_enter Tryz.func93, Tryz.ntmps93
  go_wp2_with fail
  refine (A.out _).mono ?_
  rintro e w1 ⟨rfl, rfl⟩
  go_wp2_with fail
  refine (B.out _).mono ?_
  rintro e w1 ⟨rfl, rfl⟩
  go_wp2_with fail
  refine (M.out _).mono ?_
  rintro e w1 ⟨rfl, g1⟩
  go_wp2_with fail
  refine (H.out _).mono ?_
  rintro e w2 ⟨rfl, rfl⟩
  go_wp2_with fail
  go_ret2
  exact ⟨rfl, g1⟩
theorem rdiv3_by (a b u v : Int) (is ok : Bool) (ha : Pl.fx a) (hb : Pl.fx b) (M : Hid (∀ w, Calls Tryz.prog 120 #[.int .i64 a, .int .i64 65536, .int .i64 b] w fun e w' => e = .returned (.tuple #[.int .i64 u, .bool is]) ∧ Grown w w'))
    (H : Hid (∀ w, Calls Tryz.prog 119 #[.int .i64 u, .bool is] w fun e w' => e = .returned (.tuple #[.int .i64 v, .bool ok]) ∧ w = w')) (w : World) : Calls Tryz.prog 94 #[.int .i64 a, .int .i64 b] w fun e w' => e = .returned (.tuple #[.int .i64 v, .bool ok]) ∧ Grown w w' := by
  have A := Lib.hid (r3may_yes a ha)
  have B := Lib.hid (r3may_yes b hb)
  clear ha hb
  go_enter Tryz.func94, Tryz.ntmps94
  go_wp2_with fail
  refine (A.out _).mono ?_
  rintro e w1 ⟨rfl, rfl⟩
  go_wp2_with fail
  refine (B.out _).mono ?_
  rintro e w1 ⟨rfl, rfl⟩
  go_wp2_with fail
  refine (M.out _).mono ?_
  rintro e w1 ⟨rfl, g1⟩
  go_wp2_with fail
  refine (H.out _).mono ?_
  rintro e w2 ⟨rfl, rfl⟩
  go_wp2_with fail
  go_ret2
  exact ⟨rfl, g1⟩
theorem rcut3_any (a : Int) (w : World) : Calls Tryz.prog 122 #[.int .i64 a] w fun e w' => e = .returned (.int .i64 (Pl.clamp a)) ∧ w = w' := by
  have hc : (a < -1073741823 ∧ Hid (Pl.clamp a = -1073741823)) ∨ (1073741823 < a ∧ Hid (Pl.clamp a = 1073741823)) ∨ (-1073741823 ≤ a ∧ a ≤ 1073741823 ∧ Hid (Pl.clamp a = a)) := by
    by_cases h1 : a < -1073741823
    · exact .inl ⟨h1, Lib.hid (by unfold Pl.clamp; rw [if_pos h1])⟩
    · by_cases h2 : 1073741823 < a
      · exact .inr (.inl ⟨h2, Lib.hid (by unfold Pl.clamp; rw [if_neg h1, if_pos h2])⟩)
      · exact .inr (.inr ⟨by omega, by omega, Lib.hid (by unfold Pl.clamp; rw [if_neg h1, if_neg h2])⟩)
  rcases hc with ⟨h1, e⟩ | ⟨h1, e⟩ | ⟨h1, h2, e⟩
  all_goals
    go_enter Tryz.func122, Tryz.ntmps122
    go_wp2
    go_ret
    exact ⟨ret_int (by have := e.out; omega), rfl⟩
theorem rwhole3_any (a : Int) (w : World) : Calls Tryz.prog 123 #[.int .i64 a] w fun e w' => e = .returned (.int .i64 (Pl.fwhole a)) ∧ w = w' := by
  have hb := Pl.clamp_bd a
  go_enter Tryz.func123, Tryz.ntmps123
  go_wp2_with fail
  refine (rcut3_any a _).mono ?_
  rintro e w1 ⟨rfl, rfl⟩
  go_wp2
  go_ret
  exact ⟨rfl, rfl⟩
theorem rfloor3_any (a : Int) (w : World) : Calls Tryz.prog 99 #[.int .i64 a] w fun e w' => e = .returned (.int .i64 (Pl.ffloor a)) ∧ w = w' := by
  have hb := Pl.clamp_bd a
  have C := fun w => rwhole3_any a w
  unfold Pl.fwhole at C
  have C := Lib.hid C
  unfold Pl.ffloor
  go_enter Tryz.func99, Tryz.ntmps99
  go_wp2_with fail
  refine (C.out _).mono ?_
  rintro e w1 ⟨rfl, rfl⟩
  go_wp2
  go_ret
  exact ⟨rfl, rfl⟩
theorem Pl.clamp_neg_clamp (a : Int) : Pl.clamp (-Pl.clamp a) = -Pl.clamp a := by have := Pl.clamp_bd a; exact Pl.clamp_fx (by unfold Pl.fx; omega)
theorem rceil3_any (a : Int) (w : World) : Calls Tryz.prog 98 #[.int .i64 a] w fun e w' => e = .returned (.int .i64 (Pl.fceil a)) ∧ w = w' := by
  have hb := Pl.clamp_bd a
  have C := fun w => rfloor3_any (-Pl.clamp a) w
  unfold Pl.ffloor at C
  rw [Pl.clamp_neg_clamp] at C
  have C := Lib.hid C
  unfold Pl.fceil
  go_enter Tryz.func98, Tryz.ntmps98
  go_wp2_with fail
  refine (rcut3_any a _).mono ?_
  rintro e w1 ⟨rfl, rfl⟩
  go_wp2_with fail
  refine (C.out _).mono ?_
  rintro e w1 ⟨rfl, rfl⟩
  go_wp2
  go_ret
  exact ⟨rfl, rfl⟩
theorem rtrunc3_any (a : Int) (w : World) : Calls Tryz.prog 97 #[.int .i64 a] w fun e w' => e = .returned (.int .i64 (Pl.ftrunc a)) ∧ w = w' := by
  by_cases h : a < 0
  · have ht := Lib.hid (show Pl.ftrunc a = Pl.fceil a by unfold Pl.ftrunc; rw [if_pos h])
    go_enter Tryz.func97, Tryz.ntmps97
    go_wp2_with fail
    refine (rceil3_any a _).mono ?_
    rintro e w1 ⟨rfl, rfl⟩
    go_wp2
    go_ret
    exact ⟨ret_int ht.out.symm, rfl⟩
  · have ht := Lib.hid (show Pl.ftrunc a = Pl.ffloor a by unfold Pl.ftrunc; rw [if_neg h])
    go_enter Tryz.func97, Tryz.ntmps97
    go_wp2_with fail
    refine (rfloor3_any a _).mono ?_
    rintro e w1 ⟨rfl, rfl⟩
    go_wp2
    go_ret
    exact ⟨ret_int ht.out.symm, rfl⟩
theorem rround3_any (a : Int) (w : World) : Calls Tryz.prog 100 #[.int .i64 a] w fun e w' => e = .returned (.int .i64 (Pl.fround a)) ∧ w = w' := by
  have hb := Pl.clamp_bd a
  have he : Pl.ffloor a = Pl.clamp a / 65536 * 65536 := rfl
  have hw : Pl.fwhole a = Pl.clamp a / 65536 := rfl
  have hr : Pl.fround a = if 32768 < Pl.clamp a - Pl.ffloor a ∨ (Pl.clamp a - Pl.ffloor a = 32768 ∧ Pl.fwhole a % 2 = 1) then Pl.ffloor a + 65536 else Pl.ffloor a := rfl
  obtain ⟨c, hc⟩ : ∃ c, Pl.clamp a = c := ⟨_, rfl⟩
  obtain ⟨n, hn⟩ : ∃ n, Pl.fwhole a = n := ⟨_, rfl⟩
  obtain ⟨o, ho⟩ : ∃ o, c - n * 65536 = o := ⟨_, rfl⟩
  have W := fun w => rwhole3_any a w
  have K := fun w => rcut3_any a w
  rw [hn] at W hr hw
  rw [hc] at K hr he hb hw
  have W := Lib.hid W
  have K := Lib.hid K
  have nb : -16384 ≤ n ∧ n ≤ 16383 := by omega
  have ob : 0 ≤ o ∧ o ≤ 65535 := by omega
  have hcase : (32768 < o ∧ Hid (Pl.fround a = (n + 1) * 65536)) ∨ (o = 32768 ∧ n % 2 = 1 ∧ Hid (Pl.fround a = (n + 1) * 65536)) ∨ (o = 32768 ∧ n % 2 = 0 ∧ Hid (Pl.fround a = n * 65536)) ∨ (o < 32768 ∧ Hid (Pl.fround a = n * 65536)) := by
    by_cases c1 : 32768 < o
    · exact .inl ⟨c1, Lib.hid (by rw [hr, if_pos (by omega)]; omega)⟩
    · by_cases c2 : o = 32768
      · by_cases c3 : n % 2 = 1
        · exact .inr (.inl ⟨c2, c3, Lib.hid (by rw [hr, if_pos (by omega)]; omega)⟩)
        · exact .inr (.inr (.inl ⟨c2, by omega, Lib.hid (by rw [hr, if_neg (by omega)]; omega)⟩))
      · exact .inr (.inr (.inr ⟨by omega, Lib.hid (by rw [hr, if_neg (by omega)]; omega)⟩))
  obtain ⟨nb0, nb1⟩ := nb
  obtain ⟨ob0, ob1⟩ := ob
  clear hr hw he hn hc
  rcases hcase with ⟨h1, h4⟩ | ⟨h1, h2, h4⟩ | ⟨h1, h2, h4⟩ | ⟨h1, h4⟩
  · go_enter Tryz.func100, Tryz.ntmps100
    go_wp2_with fail
    refine (W.out _).mono ?_
    rintro e w1 ⟨rfl, rfl⟩
    go_wp2_with fail
    refine (K.out _).mono ?_
    rintro e w1 ⟨rfl, rfl⟩
    go_wp2_with fail
    go_ret
    exact ⟨ret_int h4.out.symm, rfl⟩
  · subst h1
    have e2 : (n % 2 == 1) = true := beq_iff_eq.2 h2
    go_enter Tryz.func100, Tryz.ntmps100
    go_wp2_with fail
    refine (W.out _).mono ?_
    rintro e w1 ⟨rfl, rfl⟩
    go_wp2_with fail
    refine (K.out _).mono ?_
    rintro e w1 ⟨rfl, rfl⟩
    go_wp2_with fail
    go_ret
    exact ⟨ret_int h4.out.symm, rfl⟩
  · subst h1
    have e2 : (n % 2 == 1) = false := beq_eq_false_iff_ne.2 (by omega)
    go_enter Tryz.func100, Tryz.ntmps100
    go_wp2_with fail
    refine (W.out _).mono ?_
    rintro e w1 ⟨rfl, rfl⟩
    go_wp2_with fail
    refine (K.out _).mono ?_
    rintro e w1 ⟨rfl, rfl⟩
    go_wp2_with fail
    go_ret
    exact ⟨ret_int h4.out.symm, rfl⟩
  · have e1 : (o == 32768) = false := beq_eq_false_iff_ne.2 (by omega)
    go_enter Tryz.func100, Tryz.ntmps100
    go_wp2_with fail
    refine (W.out _).mono ?_
    rintro e w1 ⟨rfl, rfl⟩
    go_wp2_with fail
    refine (K.out _).mono ?_
    rintro e w1 ⟨rfl, rfl⟩
    go_wp2_with fail
    go_ret
    exact ⟨ret_int h4.out.symm, rfl⟩
end Go.Proofs.YtfmmomdmemcbbaaGreat
namespace Go.Proofs.YtfmmomdmemcbbaaGreat
set_option linter.unusedVariables false
open Go.RowKit
theorem table4_any (k : Int) (h0 : 0 ≤ k) (h1 : k < 91) (w : World) :
    Calls Tryz.prog 138 #[.int .i64 k] w fun e w' => e = .returned (.int .i64 (Pl.tb k.toNat)) ∧ Grown w w' := by
  go_enter Tryz.func138, Tryz.ntmps138
  go_upto_region 1 with (fail)
  go_outline
  apply wp_region_lit
  refine wpList_build_to rfl 98 _ rfl tabA (by kernel_rfl) ?_
  refine wpList_alloc_to rfl 98 rfl tabZ (by kernel_rfl) ?_
  refine wpList_store_new rfl 98 _ _ rfl tabZ tabA rfl rfl (by kernel_rfl) (by kernel_rfl) (by kernel_rfl) ?_
  apply wpList_nil
  have hc := tab_cell w k.toNat (by omega)
  have hg := tab_get k.toNat (by omega)
  go_wp2_with fail
  go_ret
  exact ⟨rfl, (Grown.refl w).alloc _ _⟩
theorem rmuldiv_ok (a b d : Int) (ha : Pl.i64 a) (hb : Pl.i64 b) (hd : Pl.i64 d) (h0 : d ≠ 0) (h : Pl.i64 (Pl.share a b d)) (w : World) :
    Calls Tryz.prog 120 #[.int .i64 a, .int .i64 b, .int .i64 d] w fun e w' => e = .returned (.tuple #[.int .i64 (Pl.share a b d), .bool true]) ∧ Grown w w' := by
  obtain ⟨v, ok, _, R, hv⟩ := muldiv2_ex a b d ha hb hd
  rcases hv with ⟨_, _, rfl, rfl⟩ | ⟨hn, _, _⟩
  · exact R w
  · exact absurd hn (by simp [h0, h])
theorem turn4_any (v : Int) (w : World) :
    Calls Tryz.prog 124 #[.int .i64 v] w fun e w' => e = .returned (.int .i64 (v % 23592960)) ∧ w = w' := by
  have hb := Pl.tmod_bd v 23592960 (by omega)
  have he := Lib.hid (Pl.place_eq v 23592960 (by omega))
  by_cases h : v.tmod 23592960 < 0
  · go_enter Tryz.func124, Tryz.ntmps124
    go_wp2
    go_ret
    exact ⟨ret_int (by rw [← he.out, if_pos (by assumption)]), rfl⟩
  · go_enter Tryz.func124, Tryz.ntmps124
    go_wp2
    go_ret
    exact ⟨ret_int (by rw [← he.out, if_neg (by omega)]), rfl⟩
theorem first4_any (d : Int) (h : 0 ≤ d ∧ d ≤ 5898240) (w : World) :
    Calls Tryz.prog 125 #[.int .i64 d] w fun e w' => e = .returned (.int .i64 (Pl.sine d)) ∧ Grown w w' := by
  by_cases hr : d % 65536 = 0
  · have h0 : (d % 65536 == 0) = true := beq_iff_eq.2 hr
    have hs := Lib.hid (show Pl.sine d = Pl.tb (d / 65536).toNat by unfold Pl.sine; rw [if_pos hr])
    have T := Lib.hid (table4_any (d / 65536) (by omega) (by omega))
    clear hr
    go_enter Tryz.func125, Tryz.ntmps125
    go_wp2_with fail
    refine (T.out _).mono ?_
    rintro e w1 ⟨rfl, g1⟩
    go_wp2_with fail
    go_ret
    exact ⟨ret_int hs.out.symm, g1⟩
  · have h0 : (d % 65536 == 0) = false := beq_eq_false_iff_ne.2 hr
    have hs := show Pl.sine d = Pl.tb (d / 65536).toNat + Pl.share (Pl.tb ((d / 65536).toNat + 1) - Pl.tb (d / 65536).toNat) (d % 65536) 65536 by unfold Pl.sine; rw [if_neg hr]
    have hst := Pl.tb_step (d / 65536).toNat (by omega)
    have hbk := Pl.tb_bd (d / 65536).toNat (by omega)
    have hbk1 := Pl.tb_bd ((d / 65536).toNat + 1) (by omega)
    have hpb := Pl.part_bd (Pl.tb ((d / 65536).toNat + 1) - Pl.tb (d / 65536).toNat) (d % 65536) hst.1 (by omega)
    have T := fun w => table4_any (d / 65536) (by omega) (by omega) w
    have T1 := fun w => table4_any (d / 65536 + 1) (by omega) (by omega) w
    have M := fun w => rmuldiv_ok (Pl.tb ((d / 65536).toNat + 1) - Pl.tb (d / 65536).toNat) (d % 65536) 65536 (by unfold Pl.i64; omega) (by unfold Pl.i64; omega) (by decide) (by decide) (by unfold Pl.i64; omega) w
    have e1 : (d / 65536 + 1).toNat = (d / 65536).toNat + 1 := by omega
    rw [e1] at T1
    generalize Pl.tb ((d / 65536).toNat + 1) = t1 at *
    generalize Pl.tb (d / 65536).toNat = t0 at *
    generalize Pl.share (t1 - t0) (d % 65536) 65536 = m at *
    have hs := Lib.hid hs
    have T := Lib.hid T
    have T1 := Lib.hid T1
    have M := Lib.hid M
    clear hr e1
    go_enter Tryz.func125, Tryz.ntmps125
    go_wp2_with fail
    refine (T1.out _).mono ?_
    rintro e w1 ⟨rfl, g1⟩
    go_wp2_with fail
    refine (T.out _).mono ?_
    rintro e w2 ⟨rfl, g2⟩
    go_wp2_with fail
    refine (M.out _).mono ?_
    rintro e w3 ⟨rfl, g3⟩
    go_wp2_with fail
    refine (T.out _).mono ?_
    rintro e w4 ⟨rfl, g4⟩
    go_wp2_with fail
    go_ret
    exact ⟨ret_int hs.out.symm, grown_trans g1 (grown_trans g2 (grown_trans g3 g4))⟩
theorem sin04_any (d : Int) (h : 0 ≤ d ∧ d ≤ 11796480) (w : World) :
    Calls Tryz.prog 101 #[.int .i64 d] w fun e w' => e = .returned (.int .i64 (Pl.sin0 d)) ∧ Grown w w' := by
  have hm : d % 23592960 = d := by omega
  have CB := fun w => turn4_any d w
  rw [hm] at CB
  have CB := Lib.hid CB
  clear hm
  by_cases hq : 5898240 < d
  · have hs := Lib.hid (show Pl.sin0 d = Pl.sine (11796480 - d) by unfold Pl.sin0; rw [if_pos hq])
    go_enter Tryz.func101, Tryz.ntmps101
    go_wp2_with fail
    refine (CB.out _).mono ?_
    rintro e w1 ⟨rfl, rfl⟩
    go_wp2_with fail
    refine (first4_any (11796480 - d) (by omega) _).mono ?_
    rintro e w2 ⟨rfl, g2⟩
    go_wp2_with fail
    go_ret
    exact ⟨ret_int (by rw [hs.out]), g2⟩
  · have hs := Lib.hid (show Pl.sin0 d = Pl.sine d by unfold Pl.sin0; rw [if_neg hq])
    go_enter Tryz.func101, Tryz.ntmps101
    go_wp2_with fail
    refine (CB.out _).mono ?_
    rintro e w1 ⟨rfl, rfl⟩
    go_wp2_with fail
    refine (first4_any d (by omega) _).mono ?_
    rintro e w2 ⟨rfl, g2⟩
    go_wp2_with fail
    go_ret
    exact ⟨ret_int (by rw [hs.out]), g2⟩
theorem sin4_any (v : Int) (w : World) :
    Calls Tryz.prog 101 #[.int .i64 v] w fun e w' => e = .returned (.int .i64 (Pl.sin v)) ∧ Grown w w' := by
  have CB := fun w => turn4_any v w
  have hb : 0 ≤ v % 23592960 ∧ v % 23592960 < 23592960 := by omega
  have hsv : Pl.sin v = if 11796480 < v % 23592960 then -Pl.sin0 (v % 23592960 - 11796480) else Pl.sin0 (v % 23592960) := rfl
  generalize v % 23592960 = d at *
  have CB := Lib.hid CB
  by_cases hq : 11796480 < d
  · rw [if_pos hq] at hsv
    have hs := Lib.hid hsv; clear hsv
    have hbd := Pl.sin0_bd (d - 11796480) (by omega) (by omega)
    go_enter Tryz.func101, Tryz.ntmps101
    go_wp2_with fail
    refine (CB.out _).mono ?_
    rintro e w1 ⟨rfl, rfl⟩
    go_wp2_with fail
    refine (sin04_any (d - 11796480) (by omega) _).mono ?_
    rintro e w2 ⟨rfl, g2⟩
    go_wp2_with fail
    go_ret
    exact ⟨ret_int (by rw [hs.out]), g2⟩
  · rw [if_neg hq] at hsv
    have hsd : Pl.sin0 d = Pl.sine (if 5898240 < d then 11796480 - d else d) := rfl
    rw [hsd] at hsv
    clear hsd
    by_cases hr : 5898240 < d
    · rw [if_pos hr] at hsv
      have hs := Lib.hid hsv; clear hsv
      go_enter Tryz.func101, Tryz.ntmps101
      go_wp2_with fail
      refine (CB.out _).mono ?_
      rintro e w1 ⟨rfl, rfl⟩
      go_wp2_with fail
      refine (first4_any (11796480 - d) (by omega) _).mono ?_
      rintro e w2 ⟨rfl, g2⟩
      go_wp2_with fail
      go_ret
      exact ⟨ret_int (by rw [hs.out]), g2⟩
    · rw [if_neg hr] at hsv
      have hs := Lib.hid hsv; clear hsv
      go_enter Tryz.func101, Tryz.ntmps101
      go_wp2_with fail
      refine (CB.out _).mono ?_
      rintro e w1 ⟨rfl, rfl⟩
      go_wp2_with fail
      refine (first4_any d (by omega) _).mono ?_
      rintro e w2 ⟨rfl, g2⟩
      go_wp2_with fail
      go_ret
      exact ⟨ret_int (by rw [hs.out]), g2⟩
theorem cos4_any (v : Int) (w : World) :
    Calls Tryz.prog 102 #[.int .i64 v] w fun e w' => e = .returned (.int .i64 (Pl.cos v)) ∧ Grown w w' := by
  have hb : 0 ≤ v % 23592960 ∧ v % 23592960 < 23592960 := by omega
  go_enter Tryz.func102, Tryz.ntmps102
  go_wp2_with fail
  refine (turn4_any v _).mono ?_
  rintro e w1 ⟨rfl, rfl⟩
  go_wp2_with fail
  refine (sin4_any (v % 23592960 + 5898240) _).mono ?_
  rintro e w2 ⟨rfl, g2⟩
  go_wp2_with fail
  go_ret
  exact ⟨rfl, g2⟩
theorem side4_any (v y x : Int) (hy : -1073741823 ≤ y ∧ y ≤ 1073741823) (hx : -1073741823 ≤ x ∧ x ≤ 1073741823) (w : World) :
    Calls Tryz.prog 127 #[.int .i64 v, .int .i64 y, .int .i64 x] w fun e w' => e = .returned (.int .i64 (Pl.cos v * y - Pl.sin v * x)) ∧ Grown w w' := by
  have b1 := Pl.mul_bd46 _ _ (Pl.cos_bd v) hy
  have b2 := Pl.mul_bd46 _ _ (Pl.sin_bd v) hx
  go_enter Tryz.func127, Tryz.ntmps127
  go_wp2_with fail
  refine (cos4_any v _).mono ?_
  rintro e w1 ⟨rfl, g1⟩
  go_wp2_with fail
  refine (sin4_any v _).mono ?_
  rintro e w2 ⟨rfl, g2⟩
  go_wp2_with fail
  go_ret
  exact ⟨rfl, grown_trans g1 g2⟩
theorem quarter4_any (y x : Int) (w : World) :
    Calls Tryz.prog 126 #[.int .i64 y, .int .i64 x] w fun e w' => e = .returned (.int .i64 (Pl.begin y x)) ∧ w = w' := by
  have hb : Pl.begin y x = if 0 < x ∧ 0 ≤ y then 0 else if x ≤ 0 ∧ 0 < y then 5898240 else if x < 0 then 11796480 else 17694720 := rfl
  have hc : (0 < x ∧ 0 ≤ y ∧ Hid (Pl.begin y x = 0)) ∨ (x ≤ 0 ∧ 0 < y ∧ Hid (Pl.begin y x = 5898240)) ∨ (x < 0 ∧ y ≤ 0 ∧ Hid (Pl.begin y x = 11796480)) ∨ (0 < x ∧ y < 0 ∧ Hid (Pl.begin y x = 17694720)) ∨ (x ≤ 0 ∧ 0 ≤ x ∧ y ≤ 0 ∧ Hid (Pl.begin y x = 17694720)) := by
    by_cases c1 : 0 < x
    · by_cases c2 : 0 ≤ y
      · exact .inl ⟨c1, c2, Lib.hid (by rw [hb, if_pos ⟨c1, c2⟩])⟩
      · exact .inr (.inr (.inr (.inl ⟨c1, by omega, Lib.hid (by rw [hb, if_neg (by omega), if_neg (by omega), if_neg (by omega)])⟩)))
    · by_cases c2 : 0 < y
      · exact .inr (.inl ⟨by omega, c2, Lib.hid (by rw [hb, if_neg (by omega), if_pos (by omega)])⟩)
      · by_cases c3 : x < 0
        · exact .inr (.inr (.inl ⟨c3, by omega, Lib.hid (by rw [hb, if_neg (by omega), if_neg (by omega), if_pos c3])⟩))
        · exact .inr (.inr (.inr (.inr ⟨by omega, by omega, by omega, Lib.hid (by rw [hb, if_neg (by omega), if_neg (by omega), if_neg c3])⟩)))
  clear hb
  rcases hc with ⟨h1, h2, h4⟩ | ⟨h1, h2, h4⟩ | ⟨h1, h2, h4⟩ | ⟨h1, h2, h4⟩ | ⟨h1, h3, h2, h4⟩
  all_goals
    go_enter Tryz.func126, Tryz.ntmps126
    go_wp2
    go_ret
    exact ⟨ret_int h4.out.symm, rfl⟩
end Go.Proofs.YtfmmomdmemcbbaaGreat
namespace Go.Proofs.YtfmmomdmemcbbaaGreat
set_option linter.unusedVariables false
open Go.RowKit
theorem Pl.share_comm (a b d : Int) : Pl.share a b d = Pl.share b a d := by
  unfold Pl.share Pl.sgn3
  rw [Int.mul_comm (Pl.mag a) (Pl.mag b)]
  cases decide (a < 0) <;> cases decide (b < 0) <;> rfl
theorem Pl.share_all (a : Int) (h : 0 < a) : Pl.share a 65536 a = 65536 := by rw [Pl.share_comm]; exact Pl.share_self 65536 a (by omega)
theorem Pl.cs0 : Pl.cos 5898240 = 0 ∧ Pl.sin 5898240 = 65536 ∧ Pl.cos 11796480 = -65536 ∧ Pl.sin 11796480 = 0 ∧ Pl.cos 17694720 = 0 ∧ Pl.sin 17694720 = -65536 ∧ Pl.cos 23592960 = 65536 ∧ Pl.sin 23592960 = 0 := by decide +kernel
theorem Pl.g90 (y x : Int) (h : ¬ (y = 0 ∧ x = 0)) : Pl.gAt y x 90 < 0 := by
  obtain ⟨c1, s1, c2, s2, c3, s3, c4, s4⟩ := Pl.cs0
  unfold Pl.gAt Pl.ahead
  have hb : Pl.begin y x = if 0 < x ∧ 0 ≤ y then 0 else if x ≤ 0 ∧ 0 < y then 5898240 else if x < 0 then 11796480 else 17694720 := rfl
  split at hb
  · rw [hb, show (0 : Int) + ((90 : Nat) : Int) * 65536 = 5898240 from by decide, c1, s1]; omega
  · split at hb
    · rw [hb, show (5898240 : Int) + ((90 : Nat) : Int) * 65536 = 11796480 from by decide, c2, s2]; omega
    · split at hb
      · rw [hb, show (11796480 : Int) + ((90 : Nat) : Int) * 65536 = 17694720 from by decide, c3, s3]; omega
      · rw [hb, show (17694720 : Int) + ((90 : Nat) : Int) * 65536 = 23592960 from by decide, c4, s4]; omega
theorem between4_any (d a f : Int) (hd : 0 ≤ d ∧ d ≤ 33000000) (ha : 0 < a) (ha' : a ≤ 140737488355328) (hf : f ≤ 0) (hf' : -140737488355328 ≤ f) (w : World) :
    Calls Tryz.prog 128 #[.int .i64 d, .int .i64 a, .int .i64 f] w fun e w' => e = .returned (.int .i64 ((d + Pl.share a 65536 (a - f)) % 23592960)) ∧ Grown w w' := by
  have hs := Pl.share_part a (a - f) ha (by omega)
  have M := Lib.hid (fun w => rmuldiv_ok a 65536 (a - f) (by unfold Pl.i64; omega) (by decide) (by unfold Pl.i64; omega) (by omega) (by unfold Pl.i64; omega) w)
  obtain ⟨s, hh⟩ : ∃ s, Pl.share a 65536 (a - f) = s := ⟨_, rfl⟩
  have M := M.out
  rw [hh] at M hs
  rw [hh]
  have M := Lib.hid M
  have t1 : (d + s).tmod 23592960 = (d + s) % 23592960 := Int.tmod_eq_emod_of_nonneg (by omega)
  clear hh
  go_enter Tryz.func128, Tryz.ntmps128
  go_wp2_with fail
  refine (M.out _).mono ?_
  rintro e w1 ⟨rfl, g1⟩
  go_wp2_with fail
  go_ret
  exact ⟨rfl, g1⟩
theorem dir4_no (y x : Int) (h : (y = 0 ∧ x = 0) ∨ ¬ (-1073741823 ≤ y ∧ y ≤ 1073741823) ∨ ¬ (-1073741823 ≤ x ∧ x ≤ 1073741823)) (w : World) :
    Calls Tryz.prog 104 #[.int .i64 y, .int .i64 x] w fun e w' => e = .returned (.tuple #[.int .i64 0, .bool false]) ∧ Grown w w' := by
  by_cases hz : y = 0 ∧ x = 0
  · obtain ⟨rfl, rfl⟩ := hz
    go_enter Tryz.func104, Tryz.ntmps104
    go_wp2_with fail
    go_ret2
    exact ⟨rfl, Grown.refl _⟩
  have hc : ((x == 0) = false ∧ (y == y) = true) ∨ ((x == 0) = true ∧ (y == 0) = false) := by
    by_cases c : x = 0
    · exact .inr ⟨beq_iff_eq.2 c, beq_eq_false_iff_ne.2 (fun e => hz ⟨e, c⟩)⟩
    · exact .inl ⟨beq_eq_false_iff_ne.2 c, by simp⟩
  by_cases hx : Pl.fx x
  · have hy : ¬ Pl.fx y := by unfold Pl.fx at *; omega
    have A := Lib.hid (r3may_yes x hx)
    have B := Lib.hid (r3may_no y hy)
    clear h hz hx hy
    rcases hc with ⟨h0, h1⟩ | ⟨h0, h1⟩
    all_goals
      go_enter Tryz.func104, Tryz.ntmps104
      go_wp2_with fail
      refine (A.out _).mono ?_
      rintro e w1 ⟨rfl, rfl⟩
      go_wp2_with fail
      refine (B.out _).mono ?_
      rintro e w1 ⟨rfl, rfl⟩
      go_wp2_with fail
      go_ret2
      exact ⟨rfl, Grown.refl _⟩
  · have A := Lib.hid (r3may_no x hx)
    clear h hz hx
    rcases hc with ⟨h0, h1⟩ | ⟨h0, h1⟩
    all_goals
      go_enter Tryz.func104, Tryz.ntmps104
      go_wp2_with fail
      refine (A.out _).mono ?_
      rintro e w1 ⟨rfl, rfl⟩
      go_wp2_with fail
      go_ret2
      exact ⟨rfl, Grown.refl _⟩
theorem dir4_core (y x low : Int) (J : Nat) (hy : -1073741823 ≤ y ∧ y ≤ 1073741823) (hx : -1073741823 ≤ x ∧ x ≤ 1073741823) (hz : ¬ (y = 0 ∧ x = 0)) (h0 : ((x == 0) = false ∧ (y == y) = true) ∨ ((x == 0) = true ∧ (y == 0) = false))
    (hl : Hid (Pl.begin y x = low)) (hJ : Hid (Pl.dirJ y x = J)) (w : World) :
    Calls Tryz.prog 104 #[.int .i64 y, .int .i64 x] w fun e w' => e = .returned (.tuple #[.int .i64 (Pl.dir y x), .bool true]) ∧ Grown w w' := by
  have hlb := Pl.begin_bd y x
  rw [hl.out] at hlb
  have CA := Lib.hid (fun (j : Nat) (W : World) => (show Calls Tryz.prog 127 #[.int .i64 (low + (j : Int) * 65536), .int .i64 y, .int .i64 x] W fun e w' => e = .returned (.int .i64 (Pl.gAt y x j)) ∧ Grown W w' from by
    have := side4_any (low + (j : Int) * 65536) y x hy hx W
    unfold Pl.gAt Pl.ahead
    rw [hl.out]
    exact this))
  have A := Lib.hid (r3may_yes x hx)
  have B := Lib.hid (r3may_yes y hy)
  have QU := fun w => quarter4_any y x w
  rw [hl.out] at QU
  have QU := Lib.hid QU
  have hG := Lib.hid (fun j => Pl.gAt_bd y x j hy hx)
  have g90 := Lib.hid (Pl.g90 y x hz)
  have hd : Pl.dir y x = if Pl.gAt y x 0 ≤ 0 then Pl.begin y x else Pl.dirEnd y x (Pl.dirJ y x) := rfl
  rw [hl.out, hJ.out] at hd
  have HD := Lib.hid hd; clear hd
  have hst : Hid (Pl.stopFrom (Pl.gAt y x) 90 1 = J) := hJ.out
  have hes : ∀ j : Nat, 1 ≤ j → 0 < Pl.gAt y x (j - 1) → Pl.gAt y x j ≤ 0 → Pl.dirEnd y x j = (low + ((j : Int) - 1) * 65536 + Pl.share (Pl.gAt y x (j - 1)) 65536 (Pl.gAt y x (j - 1) - Pl.gAt y x j)) % 23592960 := by
    intro j h1 hp hn
    unfold Pl.dirEnd
    rw [hl.out]
    split
    · congr 1; omega
    · rw [show Pl.gAt y x (j - 1) - Pl.gAt y x j = Pl.gAt y x (j - 1) from by omega, Pl.share_all _ hp]
      congr 1; omega
  have HE := Lib.hid hes; clear hes
  have e0 : low + ((0 : Nat) : Int) * 65536 = low := by omega
  have C0 := fun W => CA.out 0 W
  rw [e0] at C0
  have C0 := Lib.hid C0
  have e90 : low + ((90 : Nat) : Int) * 65536 = low + 5898240 := by omega
  have C90 := fun W => CA.out 90 W
  rw [e90] at C90
  have C90 := Lib.hid C90
  clear e0 e90 hy hx hz
  generalize Pl.gAt y x = G at *
  have hG0 := hG.out 0
  by_cases hle : G 0 ≤ 0
  · have HR := Lib.hid (HD.out.trans (if_pos hle))
    rcases h0 with ⟨h0, h1⟩ | ⟨h0, h1⟩
    all_goals
      go_enter Tryz.func104, Tryz.ntmps104
      go_wp2_with fail
      refine (A.out _).mono ?_
      rintro e w1 ⟨rfl, rfl⟩
      go_wp2_with fail
      refine (B.out _).mono ?_
      rintro e w1 ⟨rfl, rfl⟩
      go_wp2_with fail
      refine (QU.out _).mono ?_
      rintro e w1 ⟨rfl, rfl⟩
      go_wp2_with fail
      refine (C0.out _).mono ?_
      rintro e w1 ⟨rfl, g1⟩
      go_wp2_with fail
      go_ret2
      exact ⟨ret_ib (by rw [HR.out]) rfl, g1⟩
  · have HR := Lib.hid (HD.out.trans (if_neg hle))
    have hpos : 0 < G 0 := by omega
    clear hle
    rcases h0 with ⟨h0, h1⟩ | ⟨h0, h1⟩
    all_goals
      go_enter Tryz.func104, Tryz.ntmps104
      go_wp2_with fail
      refine (A.out _).mono ?_
      rintro e w1 ⟨rfl, rfl⟩
      go_wp2_with fail
      refine (B.out _).mono ?_
      rintro e w1 ⟨rfl, rfl⟩
      go_wp2_with fail
      refine (QU.out _).mono ?_
      rintro e w1 ⟨rfl, rfl⟩
      go_wp2_with fail
      refine (C0.out _).mono ?_
      rintro e w1 ⟨rfl, g1⟩
      go_wp2_with fail
      go_loopw [7, 8] (fun was k wr => ∃ (j : Nat), 1 ≤ j ∧ j ≤ 90 ∧ k = .int .i64 (j : Int) ∧ was = .int .i64 (G (j - 1)) ∧ 0 < G (j - 1) ∧ Hid (Pl.stopFrom G (91 - j) j = J) ∧ Grown w wr)
        (fun _ k _ => (90 - intOf k).toNat)
      case atStart => exact ⟨1, by omega, by omega, rfl, rfl, hpos, hst, g1⟩
      case round =>
        obtain ⟨j, hj1, hj2, rfl, rfl, hwas, HST, hg⟩ := hrel
        have hgj := hG.out j
        have hgw := hG.out (j - 1)
        have hunf : Pl.stopFrom G (91 - j) j = if 0 < G j ∧ j < 90 then Pl.stopFrom G (91 - (j + 1)) (j + 1) else j := by
          rw [show 91 - j = (91 - (j + 1)) + 1 by omega]; rfl
        have HU := Lib.hid (hunf.symm.trans HST.out); clear hunf
        by_cases c9 : j < 90
        · have CJ := Lib.hid (fun W => CA.out j W)
          by_cases c : 0 < G j
          · have HJ := HU.out
            rw [if_pos ⟨c, c9⟩] at HJ
            have HJ' := Lib.hid HJ; clear HJ
            go_wp2_with fail
            refine (CJ.out _).mono ?_
            rintro e w2 ⟨rfl, g2⟩
            go_wp2_with fail
            go_roundw
            case rel => exact ⟨j + 1, by omega, by omega, by go_num, rfl, c, HJ'.out, grown_trans hg g2⟩
            case measure => simp [intOf] <;> omega
          · have HJ := HU.out
            rw [if_neg (fun h => c h.1)] at HJ
            subst HJ
            have HEJ := Lib.hid (HE.out j hj1 hwas (by omega))
            have BT := Lib.hid (fun W => between4_any (low + ((j : Int) - 1) * 65536) (G (j - 1)) (G j) (by omega) hwas (by omega) (by omega) (by omega) W)
            go_wp2_with fail
            refine (CJ.out _).mono ?_
            rintro e w2 ⟨rfl, g2⟩
            go_wp2_with fail
            refine (BT.out _).mono ?_
            rintro e w3 ⟨rfl, g3⟩
            go_wp2_with fail
            go_ret2
            exact ⟨ret_ib (by rw [HR.out, HEJ.out]) rfl, grown_trans hg (grown_trans g2 g3)⟩
        · obtain rfl : j = 90 := by omega
          have HJ := HU.out
          rw [if_neg (fun h => c9 h.2)] at HJ
          subst HJ
          have HEJ := Lib.hid (HE.out 90 (by omega) hwas (by have := g90.out; omega))
          have BT := Lib.hid (fun W => between4_any (low + 5832704) (G 89) (G 90) (by omega) hwas (by have := hG.out 89; omega) (by have := g90.out; omega) (by have := hG.out 90; omega) W)
          go_wp2_with fail
          refine (C90.out _).mono ?_
          rintro e w2 ⟨rfl, g2⟩
          go_wp2_with fail
          refine (BT.out _).mono ?_
          rintro e w3 ⟨rfl, g3⟩
          go_wp2_with fail
          go_ret2
          exact ⟨ret_ib (by rw [HR.out, HEJ.out]; rfl) rfl, grown_trans hg (grown_trans g2 g3)⟩
theorem dir4_ok (y x : Int) (hy : -1073741823 ≤ y ∧ y ≤ 1073741823) (hx : -1073741823 ≤ x ∧ x ≤ 1073741823) (h : ¬ (y = 0 ∧ x = 0)) (w : World) :
    Calls Tryz.prog 104 #[.int .i64 y, .int .i64 x] w fun e w' => e = .returned (.tuple #[.int .i64 (Pl.dir y x), .bool true]) ∧ Grown w w' := by
  refine dir4_core y x _ _ hy hx h ?_ (Lib.hid rfl) (Lib.hid rfl) w
  by_cases h0 : x = 0
  · exact .inr ⟨beq_iff_eq.2 h0, beq_eq_false_iff_ne.2 (fun h1 => h ⟨h1, h0⟩)⟩
  · exact .inl ⟨beq_eq_false_iff_ne.2 h0, by simp⟩
end Go.Proofs.YtfmmomdmemcbbaaGreat
