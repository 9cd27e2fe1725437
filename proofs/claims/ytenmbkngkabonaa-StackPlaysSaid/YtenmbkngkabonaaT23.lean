/- The walk of the law StackMarks. -/
import Derived.Test.YtenmbkngkabonaaT22
namespace Go.Proofs.Ytenmbkngkabonaa
set_option linter.unusedVariables false
open Go.RowKit

/-- a slice of bools of the caller's -/
def RowB (W : World) (v : Value) (bs : List Bool) : Prop :=
  ∃ ao cap, v = .slice ao bs.length cap ∧ bs.length ≤ maxLen ∧ (bs = [] ∨ ∃ g o, ao = some ⟨g, o, none⟩ ∧ g < W.heap.size ∧ ∀ i b, bs[i]? = some b → W.cell? ⟨g, o + i, none⟩ = some (.bool b))
def Pl.mkO (b : Bool) : Pl.Ob := (if b then 6 else 1, false, 0, 0, 0, ⟨#[]⟩)
theorem Pl.mkO_may (b : Bool) : Pl.mayO (Pl.mkO b) := .inl ⟨by cases b <;> simp [Pl.mkO], rfl, rfl, rfl, rfl⟩
def Pl.optI : Option Nat → Int
  | some i => (i : Int)
  | none => -1
def Pl.want (L : List Pl.Ob) : Int := Pl.optI (L.reverse.findIdx? (fun q => q.1 == 6))
theorem Pl.want_nil : Pl.want [] = -1 := rfl
theorem Pl.want_true (L : List Pl.Ob) : Pl.want (L ++ [Pl.mkO true]) = 0 := by
  simp [Pl.want, Pl.mkO, List.findIdx?_cons, Pl.optI]
theorem Pl.want_false (L : List Pl.Ob) : Pl.want (L ++ [Pl.mkO false]) = if 0 ≤ Pl.want L then Pl.want L + 1 else -1 := by
  have h : (L ++ [Pl.mkO false]).reverse.findIdx? (fun q => q.1 == 6) = (L.reverse.findIdx? (fun q => q.1 == 6)).map (· + 1) := by
    simp [List.findIdx?_cons, Pl.mkO]
  rw [Pl.want, h, Pl.want]
  cases L.reverse.findIdx? (fun q => q.1 == 6) with
  | none => rfl
  | some i => simp [Pl.optI]
theorem Pl.want_ge (L : List Pl.Ob) : -1 ≤ Pl.want L := by
  unfold Pl.want
  cases h : L.reverse.findIdx? (fun q => q.1 == 6) with
  | none => simp [Pl.optI]
  | some i => simp [Pl.optI]
theorem Pl.want_le (L : List Pl.Ob) : Pl.want L ≤ L.length := by
  unfold Pl.want
  cases h : L.reverse.findIdx? (fun q => q.1 == 6) with
  | none => simp [Pl.optI]
  | some i =>
    have := (List.findIdx?_eq_some_iff_getElem.1 h).1
    simp [Pl.optI] at this ⊢
    omega
theorem Pl.toMark_want (L : List Pl.Ob) : (0 ≤ Pl.want L → Pl.toMark L = (Pl.want L, 0)) ∧ (Pl.want L < 0 → Pl.toMark L = (0, 10)) := by
  unfold Pl.want Pl.toMark
  cases h : L.reverse.findIdx? (fun q => q.1 == 6) with
  | none => simp [Pl.optI]
  | some i => simp [Pl.optI]

set_option maxHeartbeats 4000000 in
set_option maxRecDepth 100000 in
theorem walk_StackMarks (v : Value) (bs : List Bool) (W : World) (hR : RowB W v bs) :
    Calls Try.prog 8 #[v] W fun e w' => e = .returned (.bool true) ∧ Kept W w' := by
  obtain ⟨ao, cap, rfl, hmx, hcells⟩ := hR
  obtain ⟨n, hn⟩ : ∃ n, n = bs.length := ⟨_, rfl⟩
  rw [← hn] at hmx
  rw [← hn]
  have hmx2 : (n : Int) ≤ 9223372036854775807 := by unfold maxLen at hmx; omega
  have HN := Lib.hid hn
  have HC := Lib.hid hcells
  have CK := Lib.hid (known14_ex W)
  clear hn hcells hmx
  go_enter Try.func8, Try.ntmps8
  go_wp2_with fail
  refine CK.out.mono ?_
  rintro e w1 ⟨rfl, k1⟩
  have C1 := Lib.hid (stk_new W (fun _ => False) w1 k1 (fun c q => q.elim))
  clear k1 CK
  go_wp2_with fail
  refine C1.out.mono ?_
  rintro e w2 ⟨rfl, s2, -⟩
  have S2 := Lib.hid s2
  clear s2 C1
  go_wp2_with fail
  go_loopw [4, 5] (fun u i wr => ∃ c : Nat, i = .int .i64 (c : Int) ∧ u = .int .i64 (Pl.want ((bs.take c).map Pl.mkO)) ∧ c ≤ n ∧ c ≤ 100 ∧ Hid (Stk W (fun _ => False) w1.heap.size ((bs.take c).map Pl.mkO) wr)) (fun _ i _ => (100 - intOf i).toNat)
  case atStart => exact ⟨0, rfl, rfl, by omega, by omega, S2⟩
  case round =>
    obtain ⟨c, rfl, rfl, hcn, hc100, SR⟩ := hrel
    have hlen : ((bs.take c).map Pl.mkO).length = c := by rw [List.length_map, List.length_take, ← HN.out]; omega
    by_cases hgo : c < n ∧ c < 100
    · obtain ⟨g1, g2⟩ := hgo
      have g1' : (c : Int) < (n : Int) := by omega
      have g2' : (c : Int) < 100 := by omega
      obtain ⟨b, hb⟩ : ∃ b, bs[c]? = some b := ⟨_, List.getElem?_eq_getElem (by have := HN.out; omega)⟩
      have hsucc : (bs.take (c + 1)).map Pl.mkO = (bs.take c).map Pl.mkO ++ [Pl.mkO b] := by
        rw [List.take_add_one, hb]
        simp
      obtain ⟨g, o, rfl, hg, hcell⟩ : ∃ g o, ao = some ⟨g, o, none⟩ ∧ g < W.heap.size ∧ ∀ i b, bs[i]? = some b → W.cell? ⟨g, o + i, none⟩ = some (.bool b) := by
        rcases HC.out with h | h
        · rw [h] at hb; simp at hb
        · exact h
      have hk := SR.out.keptw
      have c0 : wr.cell? ⟨g, o + c, none⟩ = some (.bool b) := (hk.1.cell hg (fun q => q)).trans (hcell c b hb)
      have hgr : g < wr.heap.size := Nat.lt_of_lt_of_le hg hk.2.2
      have c1 : ∀ A t, (wr.alloc (.cells A t)).cell? ⟨g, o + c, none⟩ = some (.bool b) := fun A t => by rw [World.cell?_alloc_past _ _ _ hgr]; exact c0
      have CP : Hid (∀ w', Grown wr w' → Calls Try.prog 38 #[.pointer (some ⟨w1.heap.size, 0, none⟩), Pl.ov (Pl.mkO b)] w' fun e w'' => e = .returned (.int .i64 0) ∧ Stk W (fun _ => False) w1.heap.size ((bs.take (c + 1)).map Pl.mkO) w'' ∧ FrS W (fun _ => False) w' w'') := Lib.hid (fun w' h => by
        rw [hsucc]
        exact stk_push W _ _ _ w' (SR.out.grown h) (Pl.mkO b) (Pl.mkO_may b) (by rw [hlen]; omega))
      obtain ⟨wt, hwt⟩ : ∃ wt, wt = Pl.want ((bs.take c).map Pl.mkO) := ⟨_, rfl⟩
      have hw1 := Pl.want_ge ((bs.take c).map Pl.mkO)
      have hw2 := Pl.want_le ((bs.take c).map Pl.mkO)
      rw [hlen] at hw2
      have hws : Pl.want ((bs.take (c + 1)).map Pl.mkO) = if b then 0 else if 0 ≤ wt then wt + 1 else -1 := by
        rw [hsucc, hwt]
        cases b
        · exact Pl.want_false _
        · exact Pl.want_true _
      rw [← hwt] at hw1 hw2 ⊢
      have HWS := Lib.hid hws
      clear hb hsucc hcell hk c0 hwt hws hlen SR HC hgr
      have g3 : g1 = g1 := rfl
      clear g3
      cases b
      · by_cases hpos : 0 ≤ wt
        · go_wp2_with fail
          refine (CP.out _ ((Grown.refl wr).alloc _ _)).mono ?_
          rintro e w3 ⟨rfl, s3, -⟩
          have S3 := Lib.hid s3
          clear s3 CP
          go_wp2_with fail
          go_roundw
          case rel => exact ⟨c + 1, by simp, by rw [HWS.out, if_neg (by decide), if_pos hpos], by omega, by omega, S3⟩
          case measure => simp [intOf] <;> omega
        · go_wp2_with fail
          refine (CP.out _ ((Grown.refl wr).alloc _ _)).mono ?_
          rintro e w3 ⟨rfl, s3, -⟩
          have S3 := Lib.hid s3
          clear s3 CP
          go_wp2_with fail
          go_roundw
          case rel => exact ⟨c + 1, by simp, by rw [HWS.out, if_neg (by decide), if_neg (by omega), show wt = -1 from by omega], by omega, by omega, S3⟩
          case measure => simp [intOf] <;> omega
      · by_cases hpos : 0 ≤ wt
        · go_wp2_with fail
          refine (CP.out _ ((Grown.refl wr).alloc _ _)).mono ?_
          rintro e w3 ⟨rfl, s3, -⟩
          have S3 := Lib.hid s3
          clear s3 CP
          go_wp2_with fail
          go_roundw
          case rel => exact ⟨c + 1, by simp, by rw [HWS.out]; rfl, by omega, by omega, S3⟩
          case measure => simp [intOf] <;> omega
        · go_wp2_with fail
          refine (CP.out _ ((Grown.refl wr).alloc _ _)).mono ?_
          rintro e w3 ⟨rfl, s3, -⟩
          have S3 := Lib.hid s3
          clear s3 CP
          go_wp2_with fail
          go_roundw
          case rel => exact ⟨c + 1, by simp, by rw [HWS.out]; rfl, by omega, by omega, S3⟩
          case measure => simp [intOf] <;> omega
    · rcases Nat.lt_or_ge c n with hlt | hge
      · have g1' : (c : Int) < (n : Int) := by omega
        have g2' : ¬ ((c : Int) < 100) := by omega
        have C5 := Lib.hid (stk_tomark W _ _ _ wr SR.out (by rw [hlen]; omega))
        have HKK := Lib.hid SR.out.keptw
        have hT := Pl.toMark_want ((bs.take c).map Pl.mkO)
        have hwl := Pl.want_le ((bs.take c).map Pl.mkO)
        rw [hlen] at hwl
        obtain ⟨wt, hwt⟩ : ∃ wt, wt = Pl.want ((bs.take c).map Pl.mkO) := ⟨_, rfl⟩
        have hw1 := Pl.want_ge ((bs.take c).map Pl.mkO)
        rw [← hwt] at hT hw1 hwl ⊢
        obtain ⟨tm, htm⟩ : ∃ tm, tm = Pl.toMark ((bs.take c).map Pl.mkO) := ⟨_, rfl⟩
        rw [← htm] at hT C5
        clear hwt htm hlen SR HC S2
        by_cases hpos : 0 ≤ wt
        · have hT1 := hT.1 hpos
          clear hT
          subst hT1
          go_wp2_with fail
          refine C5.out.mono ?_
          rintro e w5 ⟨rfl, s5, -⟩
          have HK5 := Lib.hid s5.keptw
          clear s5 C5
          go_wp2_with fail
          go_ret
          exact ⟨rfl, HK5.out⟩
        · have hneg : wt < 0 := by omega
          have hT1 := hT.2 hneg
          clear hT
          subst hT1
          go_wp2_with fail
          refine C5.out.mono ?_
          rintro e w5 ⟨rfl, s5, -⟩
          have HK5 := Lib.hid s5.keptw
          clear s5 C5
          go_wp2_with fail
          go_ret
          exact ⟨rfl, HK5.out⟩
      · have g1' : ¬ ((c : Int) < (n : Int)) := by omega
        have C5 := Lib.hid (stk_tomark W _ _ _ wr SR.out (by rw [hlen]; omega))
        have HKK := Lib.hid SR.out.keptw
        have hT := Pl.toMark_want ((bs.take c).map Pl.mkO)
        have hwl := Pl.want_le ((bs.take c).map Pl.mkO)
        rw [hlen] at hwl
        obtain ⟨wt, hwt⟩ : ∃ wt, wt = Pl.want ((bs.take c).map Pl.mkO) := ⟨_, rfl⟩
        have hw1 := Pl.want_ge ((bs.take c).map Pl.mkO)
        rw [← hwt] at hT hw1 hwl ⊢
        obtain ⟨tm, htm⟩ : ∃ tm, tm = Pl.toMark ((bs.take c).map Pl.mkO) := ⟨_, rfl⟩
        rw [← htm] at hT C5
        clear hwt htm hlen SR HC S2
        by_cases hpos : 0 ≤ wt
        · have hT1 := hT.1 hpos
          clear hT
          subst hT1
          go_wp2_with fail
          refine C5.out.mono ?_
          rintro e w5 ⟨rfl, s5, -⟩
          have HK5 := Lib.hid s5.keptw
          clear s5 C5
          go_wp2_with fail
          go_ret
          exact ⟨rfl, HK5.out⟩
        · have hneg : wt < 0 := by omega
          have hT1 := hT.2 hneg
          clear hT
          subst hT1
          go_wp2_with fail
          refine C5.out.mono ?_
          rintro e w5 ⟨rfl, s5, -⟩
          have HK5 := Lib.hid s5.keptw
          clear s5 C5
          go_wp2_with fail
          go_ret
          exact ⟨rfl, HK5.out⟩
end Go.Proofs.Ytenmbkngkabonaa
