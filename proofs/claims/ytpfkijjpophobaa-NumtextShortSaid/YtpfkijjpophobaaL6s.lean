/- The walk of tympanlaw6.NumtextShort. -/
import Derived.Test.YtpfkijjpophobaaN18
import Derived.Laws.IdiomStrings
namespace Go.Proofs.Ytpfkijjpophobaa
set_option linter.unusedVariables false
open Go.RowKit

/-- bytes that lie in a block -/
def By (p : Nat) (L : List UInt8) (W : World) : Prop := (∀ j b, L[j]? = some b → W.cell? ⟨p, j, none⟩ = some (.int .u8 (b.toNat : Int))) ∧ ∀ j, j < L.length → W.frozen? ⟨p, j, none⟩ = false
theorem By.put {p : Nat} {L : List UInt8} {W : World} (h : By p L W) (i : Nat) (hi : i < L.length) (c : UInt8) : By p (L.set i c) (W.setCell ⟨p, i, none⟩ (.int .u8 (c.toNat : Int))) := by
  constructor
  · intro j b hb
    by_cases hj : i = j
    · subst hj
      rw [List.getElem?_set_self hi] at hb
      injection hb with hb
      subst hb
      have := h.1 i L[i] (List.getElem?_eq_getElem hi)
      exact World.cell?_setCell_same' _ _ _ (by rw [this]; rfl)
    · rw [List.getElem?_set_ne hj] at hb
      rw [World.cell?_setCell_other _ _ _ _ (by simp)]
      exact h.1 j b hb
  · intro j hj
    rw [List.length_set] at hj
    simpa using h.2 j hj
/-- digits but at one place -/
def Pl.shp (pt N : Nat) (L : List UInt8) : Prop := L.length = N ∧ ∀ j b, L[j]? = some b → if j = pt then b = 46 else (48 ≤ b.toNat ∧ b.toNat ≤ 57)
theorem Pl.shp_set {pt N : Nat} {L : List UInt8} (h : Pl.shp pt N L) (i : Nat) (c : UInt8) (hi : i ≠ pt) (hc : 48 ≤ c.toNat ∧ c.toNat ≤ 57) : Pl.shp pt N (L.set i c) := by
  refine ⟨by rw [List.length_set]; exact h.1, fun j b hb => ?_⟩
  by_cases hj : i = j
  · subst hj
    rw [if_neg hi]
    have hl : i < L.length := by
      have := (List.getElem?_eq_some_iff.1 hb).1
      rwa [List.length_set] at this
    rw [List.getElem?_set_self hl] at hb
    injection hb with hb
    rw [← hb]
    exact hc
  · rw [List.getElem?_set_ne hj] at hb
    exact h.2 j b hb
theorem Pl.shp_parts {pt N : Nat} {L : List UInt8} (h : Pl.shp pt N L) (hp : pt < N) : ∃ D E, L = D ++ [46] ++ E ∧ Pl.dig D ∧ Pl.dig E ∧ D.length = pt ∧ E.length = N - pt - 1 := by
  have hl := h.1
  refine ⟨L.take pt, L.drop (pt + 1), ?_, ?_, ?_, by rw [List.length_take]; omega, by rw [List.length_drop]; omega⟩
  · have h46 := h.2 pt L[pt] (List.getElem?_eq_getElem (by omega))
    rw [if_pos rfl] at h46
    rw [List.append_assoc, ← h46, List.singleton_append, ← List.drop_eq_getElem_cons (by omega), List.take_append_drop]
  · intro b hb
    obtain ⟨j, hj, e⟩ := List.mem_iff_getElem.1 hb
    rw [List.length_take] at hj
    rw [List.getElem_take] at e
    have := h.2 j b (by rw [List.getElem?_eq_getElem (by omega), e])
    rwa [if_neg (by omega)] at this
  · intro b hb
    obtain ⟨j, hj, e⟩ := List.mem_iff_getElem.1 hb
    rw [List.length_drop] at hj
    rw [List.getElem_drop] at e
    have := h.2 (pt + 1 + j) b (by rw [List.getElem?_eq_getElem (by omega), e])
    rwa [if_neg (by omega)] at this
theorem Pl.shp_mk (D E : List UInt8) (hD : Pl.dig D) (hE : Pl.dig E) : Pl.shp D.length (D.length + E.length + 1) (D ++ [46] ++ E) := by
  refine ⟨by simp; omega, fun j b hb => ?_⟩
  by_cases h1 : j < D.length
  · rw [if_neg (by omega)]
    rw [List.append_assoc, List.getElem?_append_left h1] at hb
    exact hD b (List.mem_of_getElem? hb)
  · by_cases h2 : j = D.length
    · subst h2
      rw [if_pos rfl]
      rw [List.append_assoc, List.getElem?_append_right (Nat.le_refl _), Nat.sub_self] at hb
      simpa using hb.symm
    · rw [if_neg h2]
      rw [List.append_assoc, List.getElem?_append_right (by omega), List.getElem?_append_right (by simp; omega)] at hb
      exact hE b (List.mem_of_getElem? hb)
theorem bytes_of (L : List UInt8) (W : World) : ∃ cap w6, (convert 9 30 (.string (Pl.tx L))).run Try.prog W = .ok (.slice (some ⟨W.heap.size, 0, none⟩) L.length cap) w6 ∧ By W.heap.size L w6 ∧ Fr (fun _ => False) W w6 ∧ L.length ≤ cap ∧ W.heap.size < w6.heap.size := by
  have hz : (Pl.tx L).size = L.length := Pl.tx_size L
  have hz2 : (Pl.tx L).data.size = L.length := hz
  have hg := grownCap_ge W L.length 0 5
  have h := run_bytes_of_string (P := Try.prog) W 9 30 5 (Pl.tx L) Try.underlying9 Try.underlying30 Try.underlying5
  rw [hz] at h
  have hbs : (bytesRow (Pl.tx L) (grownCap W L.length 0 5)).size = grownCap W L.length 0 5 := by
    unfold bytesRow
    rw [Array.size_append, Array.size_map, Array.size_replicate, hz, hz2]
    omega
  refine ⟨_, _, h, ⟨fun j b hb => ?_, fun j hj => ?_⟩, ?_, hg, ?_⟩
  · have hj : j < L.length := (List.getElem?_eq_some_iff.1 hb).1
    have := World.cell?_alloc_mark W.drew (bytesRow (Pl.tx L) (grownCap W L.length 0 5)) 5 ((bytesRow (Pl.tx L) (grownCap W L.length 0 5)).size, (bytesRow (Pl.tx L) (grownCap W L.length 0 5)).size + 1) j
    rw [show W.drew.heap.size = W.heap.size from rfl] at this
    rw [this, bytesRow_at (Pl.tx L) _ j (by omega)]
    have e : (Pl.tx L).data[j]'(by omega) = b := by
      have := (List.getElem?_eq_some_iff.1 hb).2
      rw [← this]
      rfl
    rw [e]
  · have := World.frozen?_alloc_mark W.drew (bytesRow (Pl.tx L) (grownCap W L.length 0 5)) 5 (bytesRow (Pl.tx L) (grownCap W L.length 0 5)).size ((bytesRow (Pl.tx L) (grownCap W L.length 0 5)).size + 1) j
    rw [show W.drew.heap.size = W.heap.size from rfl] at this
    rw [this, hbs, decide_eq_false (by omega), Bool.false_and]
  · exact (Fr.alloc (fun _ => False) W.drew _)
  · show W.heap.size < (W.heap.push _).size
    simp
theorem bytes_back (p : Nat) (cap : Nat) (L : List UInt8) (W : World) (h : By p L W) : (convert 30 9 (.slice (some ⟨p, 0, none⟩) L.length cap)).run Try.prog W = .ok (.string (Pl.tx L)) W :=
  run_convert_bytes_back (P := Try.prog) W 30 9 5 ⟨p, 0, none⟩ cap L Try.underlying30 Try.underlying5 Try.underlying9 (fun j hj => by
    rw [show (⟨p, 0, none⟩ : Addr).add j = ⟨p, j, none⟩ by rw [Addr.add_lit, Nat.zero_add]]
    exact h.1 j L[j] (List.getElem?_eq_getElem hj))
theorem read_fr (s : ByteArray) (hs : s.size ≤ 9223372036854775807) (x y z : Int) (h : Pl.read s = (x, y, z)) (W : World) :
    Calls Try.prog 13 #[.string s] W fun e w' => e = .returned (.tuple #[.int .i64 x, .int .i64 y, .int .i64 z]) ∧ Fr (fun _ => False) W w' :=
  (read_any s hs W).mono fun e w' ⟨h1, h2⟩ => ⟨by rw [h1, h], h2⟩
theorem Pl.dig_drop (E : List UInt8) (h : Pl.dig E) : Pl.dig E.dropLast := fun b hb => h b ((List.dropLast_sublist E).subset hb)
set_option maxHeartbeats 4000000 in
set_option maxRecDepth 100000 in
theorem walk_NumtextShort (v : Int) (hv : (Lit.int .i64 v).wf = true) (w : World) :
    Calls Try.prog 4 #[.int .i64 v] w fun e w' => e = .returned (.bool true) ∧ Kept w w' := by
  have hv : -9223372036854775808 ≤ v ∧ v ≤ 9223372036854775807 := by simp [Lit.wf, IntKind.min, IntKind.max, IntKind.signed, IntKind.bits] at hv; omega
  obtain ⟨v0, v1⟩ := hv
  have KN := Lib.hid (known6 w)
  have CP := Lib.hid (fun Z => place_any v 1073741824 (by omega) (by omega) Z)
  obtain ⟨z, hz⟩ : ∃ z, z = v % 1073741824 := ⟨_, rfl⟩
  have z0 : 0 ≤ z := by omega
  have z1 : z ≤ 1073741823 := by omega
  rw [← hz] at CP
  obtain ⟨k1, k5, kok⟩ := Pl.fixK_ok z z0 z1
  have hnok : ∀ j, 1 ≤ j → j < Pl.fixK z → ¬ Pl.fixOk z j := Pl.fixK_least z
  obtain ⟨k, hk⟩ : ∃ k, k = Pl.fixK z := ⟨_, rfl⟩
  have hft : Pl.fixText z = Pl.fixAt [] z k := by
    unfold Pl.fixText
    rw [if_neg (by omega), hk]
    unfold Pl.sgn Pl.mg
    rw [if_neg (by omega), if_neg (by omega)]
  rw [← hk] at k1 k5 kok hnok
  have CF := fun Z => fix_any z ⟨by omega, by omega⟩ Z
  rw [hft] at CF
  have hrd := Pl.read_fixAt [] (.inl rfl) z z0 z1 k k1 k5 kok
  have hb : 10 ^ k ≤ 10 ^ 5 := Nat.pow_le_pow_right (by omega) k5
  have hb0 : 10 ^ 1 ≤ 10 ^ k := Nat.pow_le_pow_right (by omega) k1
  have hn0 : 0 ≤ Pl.fixN z k := (Pl.nst_le _ _ (Int.mul_nonneg z0 (Int.natCast_nonneg _)) (by omega)).1
  have hq := Pl.fix_parts z (Pl.fixN z k) ((10 ^ k : Nat) : Int) (by omega) z0 z1 hn0 kok
  have hrl : (Pl.fixN z k % ((10 ^ k : Nat) : Int)).toNat < 10 ^ k := by
    have := Int.emod_lt_of_pos (Pl.fixN z k) (show 0 < ((10 ^ k : Nat) : Int) by omega)
    omega
  unfold Pl.fixAt at CF hrd
  rw [List.nil_append] at CF hrd
  obtain ⟨q, hqq⟩ : ∃ q, q = (Pl.fixN z k / ((10 ^ k : Nat) : Int)).toNat := ⟨_, rfl⟩
  obtain ⟨r, hr⟩ : ∃ r, r = (Pl.fixN z k % ((10 ^ k : Nat) : Int)).toNat := ⟨_, rfl⟩
  have q1 : q ≤ 16383 := by omega
  rw [← hqq, ← hr] at CF hrd
  rw [← hr] at hrl
  have hD := Pl.dec_dig q
  have hDn := Pl.dec_nm q (by omega)
  have hDl := Pl.dec_len q
  have hD1 : 1 ≤ (Pl.dec q).length := List.length_pos_iff.2 (Pl.dec_ne q)
  have hhd : 1 < (Pl.dec q).length → ∀ b r, Pl.dec q = b :: r → b.toNat ≠ 48 := fun h => Pl.dec_head q (by omega) (Pl.dec_one q (by omega) h)
  have hE := Pl.pad_dig k _ (Pl.dec_dig r)
  have hEl := Pl.pad_len k _ (Pl.dec_short r k k1 hrl (by omega))
  obtain ⟨E, hEE⟩ : ∃ E, E = Pl.pad k (Pl.dec r) := ⟨_, rfl⟩
  obtain ⟨D, hDD⟩ : ∃ D, D = Pl.dec q := ⟨_, rfl⟩
  rw [← hEE] at CF hrd hE hEl
  rw [← hDD] at CF hrd hD hDn hDl hD1 hhd
  have h46 : (46 : UInt8) ∉ D := Pl.dig_not 46 (by decide) D hD
  have CN := fun Z => find_pt D E h46 (by omega) Z
  have hcat : D ++ [46] ++ E = D ++ 46 :: E := by simp
  have hss : (Pl.tx (D ++ [46] ++ E)).size = D.length + k + 1 := by rw [Pl.tx_size, hcat, List.length_append, List.length_cons]; omega
  obtain ⟨d, hd⟩ : ∃ d, d = D.length := ⟨_, rfl⟩
  have hI0 : 1 < d → ∃ c : Nat, ((c : Int) == 48) = false ∧ c ≤ 255 ∧ ∀ W, (Instr.index 9 (.string (Pl.tx (D ++ [46] ++ E))) (.int .i64 0)).run Try.prog W = .ok (.int .u8 (c : Int)) W := fun h => by
    cases hDc : D with
    | nil => rw [hDc] at hd; simp at hd; omega
    | cons b t =>
      have hh := hhd (by omega) b t hDc
      exact ⟨b.toNat, beq_eq_false_iff_ne.2 (by omega), by have := b.toNat_lt; omega, fun W => byte_at (b :: t ++ [46] ++ E) 0 b rfl W⟩
  have R1 := fun Z => read_fr (Pl.tx (D ++ [46] ++ E)) (by omega) 2 z 0 hrd Z
  have HLs : 2 ≤ k → ∃ y, y ≠ z ∧ Pl.read (Pl.tx (D ++ [46] ++ E.dropLast)) = (2, y, 0) := fun h => by
    obtain ⟨y, hy, he⟩ := Pl.read_short D E.dropLast hD (Pl.dig_drop E hE) (by rw [List.length_dropLast]; omega) (by rw [List.length_dropLast]; omega) (by omega)
    refine ⟨y, ?_, hy⟩
    rw [he]
    rw [List.length_dropLast, hEl]
    exact Pl.fewer z (k - 1) (by omega) (by omega) z0 (hnok _ (by omega) (by omega)) _
  have HT : Hid (2 ≤ k → ∀ D' E', Pl.dig D' → Pl.dig E' → E'.length = k - 1 → Pl.read (Pl.tx (D' ++ [46] ++ E')) = (0, 0, 2) ∨ ∃ y, y ≠ z ∧ Pl.read (Pl.tx (D' ++ [46] ++ E')) = (2, y, 0)) := Lib.hid (fun h D' E' hD' hE' hl => by
    rcases Pl.read_pt D' E' hD' hE' (by omega) (by omega) with h1 | ⟨_, h1⟩
    · exact .inl h1
    · refine .inr ⟨_, ?_, h1⟩
      rw [hl]
      exact Pl.fewer z (k - 1) (by omega) (by omega) z0 (hnok _ (by omega) (by omega)) _)
  have sl := slice_to (D ++ [46] ++ E) (d + k) (by rw [hcat, List.length_append, List.length_cons]; omega)
  have hdl : (D ++ [46] ++ E).take (d + k) = D ++ [46] ++ E.dropLast := by
    rw [List.take_append, List.take_of_length_le (by rw [List.length_append, List.length_singleton]; omega)]
    congr 1
    rw [List.length_append, List.length_singleton, List.dropLast_eq_take]
    congr 1
    omega
  rw [hdl] at sl
  have hshp : Pl.shp d (d + k) (D ++ [46] ++ E.dropLast) ∨ k < 1 := by
    left
    have := Pl.shp_mk D E.dropLast hD (Pl.dig_drop E hE)
    rw [List.length_dropLast, hEl, ← hd] at this
    rwa [show d + (k - 1) + 1 = d + k by omega] at this
  have hshp := hshp.resolve_right (by omega)
  rw [hcat] at hss hI0 R1 sl CF
  rw [show (⟨(D ++ 46 :: E).toArray⟩ : ByteArray) = Pl.tx (D ++ 46 :: E) from rfl] at CF
  obtain ⟨L, hL⟩ : ∃ L, L = D ++ [46] ++ E.dropLast := ⟨_, rfl⟩
  rw [← hL] at sl HLs hshp
  obtain ⟨s, hs⟩ : ∃ s, s = Pl.tx (D ++ 46 :: E) := ⟨_, rfl⟩
  rw [← hs] at CF CN hss hI0 R1 sl
  rw [← hd] at CN hss hDl hD1
  have CF := Lib.hid CF
  have CN := Lib.hid CN
  have R1 := Lib.hid R1
  have hLl : L.length = d + k := hshp.1
  have hLs : (Pl.tx L).size = d + k := by rw [Pl.tx_size, hLl]
  have HSH := Lib.hid hshp
  have HLL := Lib.hid hLl
  obtain ⟨s', hs'⟩ : ∃ s', s' = Pl.tx L := ⟨_, rfl⟩
  have HS' := Lib.hid hs'
  rw [← hs'] at sl HLs hLs
  have dI : (d : Int) ≤ 20 := by omega
  have kI : (k : Int) ≤ 5 := by omega
  clear hcat hdl hs hL hDD hEE hs' hshp hd h46 hhd hDn hDl hrl hqq hr hq hrd hnok kok hk hft hz hEl hE hD hn0 hb hb0 hLl
  by_cases hk1 : k = 1
  · subst hk1
    clear HLs HT R1 sl
    by_cases hd1 : d = 1
    · subst hd1
      go_enter Try.func4, Try.ntmps4
      go_wp2_with fail
      refine KN.out.mono ?_
      rintro e w1 ⟨rfl, g1⟩
      go_wp2_with fail
      refine (CP.out _).mono ?_
      rintro e w2 ⟨rfl, rfl⟩
      go_wp2_with fail
      refine (CF.out _).mono ?_
      rintro e w3 ⟨rfl, g3⟩
      go_wp2_with fail
      refine (CN.out _).mono ?_
      rintro e w4 ⟨rfl, g4⟩
      go_wp2_with fail
      go_ret
      exact ⟨rfl, (g1.trans (.of_grown g3)).trans (.of_grown g4)⟩
    · obtain ⟨c, c48, c255, I0⟩ := hI0 (by omega)
      have d1 : (1 : Int) < (d : Int) := by omega
      go_enter Try.func4, Try.ntmps4
      go_wp2_with fail
      refine KN.out.mono ?_
      rintro e w1 ⟨rfl, g1⟩
      go_wp2_with fail
      refine (CP.out _).mono ?_
      rintro e w2 ⟨rfl, rfl⟩
      go_wp2_with fail
      refine (CF.out _).mono ?_
      rintro e w3 ⟨rfl, g3⟩
      go_wp2_with fail
      refine (CN.out _).mono ?_
      rintro e w4 ⟨rfl, g4⟩
      go_wp2_with fail
      go_ret
      exact ⟨rfl, (g1.trans (.of_grown g3)).trans (.of_grown g4)⟩
  · obtain ⟨y, hyz, hry⟩ := HLs (by omega)
    have R2 := Lib.hid (fun Z => read_fr s' (by omega) 2 y 0 hry Z)
    have kne : ((k : Int) == 1) = false := beq_eq_false_iff_ne.2 (by omega)
    have k2 : (2 : Int) ≤ (k : Int) := by omega
    have HYZ : Hid (z ≠ y) := Lib.hid (fun e => hyz e.symm)
    have HT := Lib.hid (HT.out (by omega))
    obtain ⟨M, hM⟩ : ∃ M, M = d + k := ⟨_, rfl⟩
    have hMI : (M : Int) ≤ 25 := by omega
    have hdM : d < M := by omega
    have hszM : s.size = M + 1 := by omega
    have hsM : (s'.size) = M := by omega
    rw [← hM] at sl HSH HLL
    have HMk : Hid (M - d - 1 = k - 1) := Lib.hid (by omega)
    have hdk : (M : Int) + 1 - (d : Int) - 1 = (k : Int) := by omega
    have b1 : decide ((d : Int) < 1) = false := decide_eq_false (by omega)
    have b2 : decide ((k : Int) < 1) = false := decide_eq_false (by omega)
    have b3 : decide ((5 : Int) < (k : Int)) = false := decide_eq_false (by omega)
    have cs : decide ((1 : Int) < (d : Int)) = false ∨ (decide ((1 : Int) < (d : Int)) = true ∧ ∃ c : Nat, ((c : Int) == 48) = false ∧ c ≤ 255 ∧ ∀ W, (Instr.index 9 (.string s) (.int .i64 0)).run Try.prog W = .ok (.int .u8 (c : Int)) W) := by
      by_cases h1 : d = 1
      · exact .inl (decide_eq_false (by omega))
      · exact .inr ⟨decide_eq_true (by omega), hI0 (by omega)⟩
    have hd1' : (1 : Int) ≤ (d : Int) := by omega
    have hdMI : (d : Int) < (M : Int) := by omega
    clear hI0 HLs hry hyz hss hLs hk1 hM
    go_enter Try.func4, Try.ntmps4
    go_wp2_with fail
    refine KN.out.mono ?_
    rintro e w1 ⟨rfl, g1⟩
    go_wp2_with fail
    refine (CP.out _).mono ?_
    rintro e w2 ⟨rfl, rfl⟩
    go_wp2_with fail
    refine (CF.out _).mono ?_
    rintro e w3 ⟨rfl, g3⟩
    go_wp2_with fail
    refine (CN.out _).mono ?_
    rintro e w4 ⟨rfl, g4⟩
    have G4 := Lib.hid ((g1.trans (.of_grown g3)).trans (.of_grown g4))
    clear KN CP CF CN g1 g3 g4
    go_upto_region 6 with fail
    go_cut [49] (fun t wx => t = .bool false ∧ w4 = wx)
    case first =>
      rcases cs with d1 | ⟨d1, c, c48, c255, I0⟩
      · go_wp2_with fail
        go_meet
        case rel => exact ⟨rfl, rfl⟩
      · go_wp2_with fail
        go_meet
        case rel => exact ⟨rfl, rfl⟩
    case rest =>
      obtain ⟨rfl, rfl⟩ := hcut
      clear cs
      go_wp2_with fail
      refine (R1.out _).mono ?_
      rintro e w5 ⟨rfl, f5⟩
      have G5 := Lib.hid (G4.out.trans (Kept.of_fr f5))
      clear R1 G4 f5
      go_wp2_with fail
      refine (R2.out _).mono ?_
      rintro e w6 ⟨rfl, f6⟩
      have G6 := Lib.hid (G5.out.trans (Kept.of_fr f6))
      clear R2 G5 f6
      go_upto_region 12 with fail
      obtain ⟨cap, w7, kc, hBy, hFr, hcap, hpl⟩ := bytes_of L w6
      rw [HLL.out, ← HS'.out] at kc
      have HC : Hid (M ≤ cap) := Lib.hid (by rw [← HLL.out]; exact hcap)
      obtain ⟨p, hp⟩ : ∃ p, p = w6.heap.size := ⟨_, rfl⟩
      rw [← hp] at kc hBy hpl
      have HBy := Lib.hid hBy
      have HF7 : Hid (Kept w w7) := Lib.hid (G6.out.trans (Kept.of_fr hFr))
      have hpw : w.heap.size ≤ p := by rw [hp]; exact G6.out.2.2
      have hwr1 : IntKind.i64.wrap ((M : Int) - 1) = (M : Int) - 1 := by rw [IntKind.wrap_i64]; omega
      clear hBy hFr hcap hp G6
      go_wp2_with fail
      go_loopw [13, 14] (fun s13 s14 wr => ∃ (i o : Int) (cur : List UInt8), s13 = .int .i64 o ∧ s14 = .int .i64 i ∧ (o = 0 ∨ o = 1) ∧ -1 ≤ i ∧ i < (M : Int) ∧ Hid (By p cur wr) ∧ Hid (Pl.shp d M cur) ∧ Hid (Kept w wr)) (fun _ s14 _ => (intOf s14 + 1).toNat)
      case atStart => exact ⟨(M : Int) - 1, 1, L, rfl, rfl, .inr rfl, by omega, by omega, HBy, HSH, HF7⟩
      case round =>
        obtain ⟨i, o, cur, rfl, rfl, ho, hi0, hi1, HB, HS, HK⟩ := hrel
        have hcl : cur.length = M := HS.out.1
        by_cases hgo : 0 ≤ i ∧ o = 1
        · obtain ⟨hi2, rfl⟩ := hgo
          obtain ⟨j, rfl⟩ : ∃ j : Nat, i = (j : Int) := ⟨i.toNat, by omega⟩
          have hj : j < cur.length := by omega
          have hb := List.getElem?_eq_getElem hj
          have hsh := HS.out.2 j cur[j] hb
          have hc := HB.out.1 j cur[j] hb
          have hfz := HB.out.2 j hj
          have hjM : j < M := by omega
          have HPUT := Lib.hid (fun c => By.put HB.out j hj c)
          have HKP : Hid (∀ u, Kept w (wr.setCell ⟨p, j, none⟩ u)) := Lib.hid (fun u => HK.out.fr (Fr.setCell (fun q => q = p) _ ⟨p, j, none⟩ u rfl) (fun c q => by rw [q]; exact hpw))
          have HSET := Lib.hid (fun (hne : j ≠ d) c hc => Pl.shp_set HS.out j c hne hc)
          have c255 : cur[j].toNat < 256 := cur[j].toNat_lt
          have hsh' : (j = d ∧ cur[j].toNat = 46) ∨ (j ≠ d ∧ 48 ≤ cur[j].toNat ∧ cur[j].toNat ≤ 57) := by
            by_cases hjd : j = d
            · rw [if_pos hjd] at hsh
              exact .inl ⟨hjd, by rw [hsh]; rfl⟩
            · rw [if_neg hjd] at hsh
              exact .inr ⟨hjd, hsh⟩
          obtain ⟨c, hcc⟩ : ∃ c, c = cur[j].toNat := ⟨_, rfl⟩
          rw [← hcc] at hsh' hc c255
          have hmc : M ≤ cap := HC.out
          clear hb hsh hcc ho hcl hj
          rcases hsh' with ⟨hjd, rfl⟩ | ⟨hjd, hc0, hc1⟩
          · clear hjd
            go_wp2_with fail
            exact ⟨⟨(j : Int) - 1, 1, cur, rfl, rfl, .inr rfl, by omega, by omega, HB, HS, HK⟩, by simp [intOf] <;> omega⟩
          · have c46 : ((c : Int) == 46) = false := beq_eq_false_iff_ne.2 (by omega)
            by_cases h57 : c = 57
            · subst h57
              have HP := Lib.hid (HPUT.out 48)
              have HS' := Lib.hid (HSET.out hjd 48 (by decide))
              clear HPUT HSET
              go_wp2_with fail
              exact ⟨⟨(j : Int) - 1, 1, _, rfl, rfl, .inr rfl, by omega, by omega, HP, HS', Lib.hid (HKP.out _)⟩, by simp [intOf] <;> omega⟩
            · have c57 : ((c : Int) == 57) = false := beq_eq_false_iff_ne.2 (by omega)
              have hn : (UInt8.ofNat (c + 1)).toNat = c + 1 := by rw [UInt8.toNat_ofNat']; exact Nat.mod_eq_of_lt (by omega)
              have HP := HPUT.out (UInt8.ofNat (c + 1))
              rw [hn, show ((c + 1 : Nat) : Int) = (c : Int) + 1 by omega] at HP
              have HP := Lib.hid HP
              have HS' := Lib.hid (HSET.out hjd (UInt8.ofNat (c + 1)) (by rw [hn]; omega))
              clear HPUT HSET hn
              go_wp2_with fail
              exact ⟨⟨(j : Int) - 1, 0, _, rfl, rfl, .inl rfl, by omega, by omega, HP, HS', Lib.hid (HKP.out _)⟩, by simp [intOf] <;> omega⟩
        · have kb := bytes_back p cap cur wr HB.out
          rw [hcl] at kb
          obtain ⟨D', E', hcur, hD', hE', hDl', hEl'⟩ := Pl.shp_parts HS.out hdM
          rw [HMk.out] at hEl'
          have hsz : (Pl.tx cur).size = M := by rw [Pl.tx_size, hcl]
          have hrs : ∀ (P : List UInt8), Pl.dig P → Pl.read (Pl.tx (P ++ cur)) = (0, 0, 2) ∨ ∃ y', y' ≠ z ∧ Pl.read (Pl.tx (P ++ cur)) = (2, y', 0) := fun P hP => by
            have := HT.out (P ++ D') E' ((Pl.dig_append P D').2 ⟨hP, hD'⟩) hE' hEl'
            rwa [show P ++ D' ++ [46] ++ E' = P ++ cur by rw [hcur]; simp] at this
          have hrs0 := hrs [] Pl.dig_nil
          have hrs1 := hrs [49] (fun b hb => by rw [List.mem_singleton.1 hb]; decide)
          rw [List.nil_append] at hrs0
          have hcat : Pl.tx ([49] ++ cur) = ByteArray.mk #[49] ++ Pl.tx cur := by
            unfold Pl.tx
            apply ByteArray.ext
            simp
          rw [hcat] at hrs1
          obtain ⟨S0, hS0⟩ : ∃ S0, S0 = Pl.tx cur := ⟨_, rfl⟩
          obtain ⟨S1, hS1⟩ : ∃ S1, S1 = ByteArray.mk #[49] ++ S0 := ⟨_, rfl⟩
          rw [← hS0] at kb hrs0 hrs1 hsz
          rw [← hS1] at hrs1
          have hLB : ByteArray.mk #[49] ++ S0 = S1 := hS1.symm
          have hsz1 : S1.size = M + 1 := by rw [hS1, ByteArray.size_append, hsz, show (ByteArray.mk #[49]).size = 1 from rfl]; omega
          have hsz2 : ¬ (9223372036854775807 < (ByteArray.mk #[49]).size + S0.size) := by rw [hsz, show (ByteArray.mk #[49]).size = 1 from rfl]; omega
          have fin0 : ∃ x3 y3 z3 : Int, (z3 = 2 ∨ (z3 = 0 ∧ Hid (y3 ≠ z))) ∧ Pl.read S0 = (x3, y3, z3) := by
            rcases hrs0 with h | ⟨y', h1, h2⟩
            · exact ⟨_, _, _, .inl rfl, h⟩
            · exact ⟨_, _, _, .inr ⟨rfl, Lib.hid h1⟩, h2⟩
          have fin1 : ∃ x3 y3 z3 : Int, (z3 = 2 ∨ (z3 = 0 ∧ Hid (y3 ≠ z))) ∧ Pl.read S1 = (x3, y3, z3) := by
            rcases hrs1 with h | ⟨y', h1, h2⟩
            · exact ⟨_, _, _, .inl rfl, h⟩
            · exact ⟨_, _, _, .inr ⟨rfl, Lib.hid h1⟩, h2⟩
          clear hS0 hS1 hcat hrs0 hrs1 hrs hcur hD' hE' hDl' hEl' hcl
          have hex : (o = 0 ∧ 0 ≤ i) ∨ (o = 0 ∧ ¬ 0 ≤ i) ∨ (o = 1 ∧ ¬ 0 ≤ i) := by omega
          clear ho hgo
          rcases hex with ⟨rfl, hi⟩ | ⟨rfl, hi⟩ | ⟨rfl, hi⟩
          rotate_right
          · obtain ⟨x3, y3, z3, hz3, hr3⟩ := fin1
            have R3 := Lib.hid (fun Z => read_fr S1 (by omega) x3 y3 z3 hr3 Z)
            clear hr3 fin0
            rcases hz3 with rfl | ⟨rfl, hne⟩
            · go_wp2_with fail
              refine (R3.out _).mono ?_
              rintro e w9 ⟨rfl, f9⟩
              go_wp2_with fail
              all_goals first
                | (exfalso; exact HYZ.out rfl)
                | (go_ret
                   refine ⟨ret_bool ?_, HK.out.trans (Kept.of_fr f9)⟩
                   first | rfl | exact bne_iff_ne.2 HYZ.out)
            · go_wp2_with fail
              refine (R3.out _).mono ?_
              rintro e w9 ⟨rfl, f9⟩
              go_wp2_with fail
              all_goals first
                | (exfalso; exact HYZ.out rfl)
                | (exfalso; exact hne.out rfl)
                | (go_ret
                   refine ⟨ret_bool ?_, HK.out.trans (Kept.of_fr f9)⟩
                   first | rfl | exact bne_iff_ne.2 HYZ.out | exact bne_iff_ne.2 hne.out | exact (Bool.and_eq_true_iff).2 ⟨bne_iff_ne.2 HYZ.out, bne_iff_ne.2 hne.out⟩)
          all_goals
            obtain ⟨x3, y3, z3, hz3, hr3⟩ := fin0
            have R3 := Lib.hid (fun Z => read_fr S0 (by omega) x3 y3 z3 hr3 Z)
            clear hr3 fin1
            rcases hz3 with rfl | ⟨rfl, hne⟩
            · go_wp2_with fail
              refine (R3.out _).mono ?_
              rintro e w9 ⟨rfl, f9⟩
              go_wp2_with fail
              all_goals first
                | (exfalso; exact HYZ.out rfl)
                | (go_ret
                   refine ⟨ret_bool ?_, HK.out.trans (Kept.of_fr f9)⟩
                   first | rfl | exact bne_iff_ne.2 HYZ.out)
            · go_wp2_with fail
              refine (R3.out _).mono ?_
              rintro e w9 ⟨rfl, f9⟩
              go_wp2_with fail
              all_goals first
                | (exfalso; exact HYZ.out rfl)
                | (exfalso; exact hne.out rfl)
                | (go_ret
                   refine ⟨ret_bool ?_, HK.out.trans (Kept.of_fr f9)⟩
                   first | rfl | exact bne_iff_ne.2 HYZ.out | exact bne_iff_ne.2 hne.out | exact (Bool.and_eq_true_iff).2 ⟨bne_iff_ne.2 HYZ.out, bne_iff_ne.2 hne.out⟩)
end Go.Proofs.Ytpfkijjpophobaa
