/- The walks of package bow: near, May, sign, straight, even. -/
import Derived.Test.YtnienpalbfgflaaBW1
import Derived.Test.YtnienpalbfgflaaKept
import Derived.Test.YtnienpalbfgflaaB5
namespace Go.Proofs.Ytnienpalbfgflaa
set_option linter.unusedVariables false
open Go.RowKit

/-- a row of whole numbers that lies anywhere -/
def RdI (v : Value) (L : List Int) (W : World) : Prop :=
  ∃ ao cap, v = .slice ao L.length cap ∧ L.length ≤ cap ∧ (L = [] ∨ ∃ g o, ao = some ⟨g, o, none⟩ ∧ g < W.heap.size ∧ ∀ j x, L[j]? = some x → W.cell? ⟨g, o + j, none⟩ = some (.int .i64 x))
abbrev edv (e : Pl.Ed) : Value := .agg #[.int .i64 e.x0, .int .i64 e.y0, .bool e.b, .int .i64 e.cx, .int .i64 e.cy, .int .i64 e.x1, .int .i64 e.y1]
abbrev spv (s : Pl.Sp) : Value := .agg #[.int .i64 s.t, .int .i64 s.p, .int .i64 s.q, .int .i64 s.d, .int .i64 s.m]
/-- a row just built -/
theorem rdI_lit (W : World) (L : List Int) (A : Array Value) (t : TypeId) (n g : Nat) (hn : n = L.length) (hA : A.toList = L.map (fun x => .int .i64 x)) (hg : g = W.heap.size) : RdI (.slice (some ⟨g, 0, none⟩) n n) L (W.alloc (.cells A t)) := by
  subst hn hg
  refine ⟨_, L.length, rfl, Nat.le_refl _, .inr ⟨W.heap.size, 0, rfl, by simp, fun j x hx => ?_⟩⟩
  have h := alloc_cell W A t j (.int .i64 x) (by rw [hA, List.getElem?_map, hx]; rfl)
  rw [Addr.add_lit] at h
  exact h
set_option maxRecDepth 100000 in
theorem near_any (v : Value) (L : List Int) (hL : L.length < 1000000) (W : World) (hv : RdI v L W) :
    Calls Try.prog 32 #[v] W fun e w' => e = .returned (.bool (decide (∀ x ∈ L, Pl.crd x))) ∧ W = w' := by
  obtain ⟨m, hm⟩ : ∃ m, m = decide (∀ x ∈ L, Pl.crd x) := ⟨_, rfl⟩
  rw [← hm]
  have HV := Lib.hid hv
  have HB := Lib.hid hm
  obtain ⟨ao, cap, rfl, hcap, hrd⟩ := hv
  obtain ⟨M, hM⟩ : ∃ M, M = L.length := ⟨_, rfl⟩
  have HM := Lib.hid hM
  have HR := Lib.hid hrd
  rw [← hM] at hcap hL ⊢
  clear hrd hM hm
  go_enter Try.func32, Try.ntmps32
  go_wp2_with fail
  go_loop [7] (fun s7 => ∃ (i : Nat), s7 = .int .i64 (i : Int) ∧ i ≤ M ∧ Hid (∀ x ∈ L.take i, Pl.crd x)) (fun s7 => (M - intOf s7).toNat)
  case atStart => exact ⟨0, rfl, by omega, Lib.hid (by simp)⟩
  case round =>
    obtain ⟨i, rfl, hi, HA⟩ := hrel
    by_cases hiM : i = M
    · subst hiM
      have hb : decide ((i : Int) < (i : Int)) = false := decide_eq_false (by omega)
      go_wp2_with fail
      go_ret
      refine ⟨ret_bool ?_, rfl⟩
      rw [HB.out]
      symm
      rw [decide_eq_true_eq]
      have := HA.out
      rw [HM.out, List.take_length] at this
      exact this
    · have hiI : (i : Int) < (M : Int) := by omega
      have HI := Lib.hid (show i < M by omega)
      obtain ⟨x, hx⟩ : ∃ x, L[i]? = some x := ⟨_, List.getElem?_eq_getElem (by have := HM.out; omega)⟩
      obtain ⟨g, o, rfl, hg, hcell⟩ := HR.out.resolve_left (fun q => by rw [q] at hx; simp at hx)
      have hc := hcell i x hx
      have HX := Lib.hid hx
      clear hcell hx hiM
      by_cases hc1 : x < -8191
      · go_wp2_with fail
        go_ret
        refine ⟨ret_bool ?_, rfl⟩
        rw [HB.out]
        symm
        rw [decide_eq_false_iff_not]
        intro h
        have := h x (List.mem_of_getElem? HX.out)
        unfold Pl.crd at this
        omega
      · by_cases hc2 : 8191 < x
        · go_wp2_with fail
          go_ret
          refine ⟨ret_bool ?_, rfl⟩
          rw [HB.out]
          symm
          rw [decide_eq_false_iff_not]
          intro h
          have := h x (List.mem_of_getElem? HX.out)
          unfold Pl.crd at this
          omega
        · have HC : Hid (Pl.crd x) := Lib.hid (by unfold Pl.crd; omega)
          go_wp2_with fail
          refine ⟨⟨i + 1, by simp, by have := HI.out; omega, Lib.hid (fun u hu => ?_)⟩, by simp [intOf]; omega⟩
          rw [List.take_add_one, HX.out] at hu
          rcases List.mem_append.1 hu with h | h
          · exact HA.out u h
          · simp at h
            subst h
            exact HC.out
set_option maxHeartbeats 1000000 in
set_option maxRecDepth 100000 in
theorem may_core (x0 y0 : Int) (b : Bool) (cx cy x1 y1 : Int) (m r : Bool) (W : World) (hm : m = decide (∀ x ∈ [x0, y0, cx, cy, x1, y1], Pl.crd x)) (hr : r = (m && (b || (cx == 0 && cy == 0)))) :
    Calls Try.prog 23 #[.agg #[.int .i64 x0, .int .i64 y0, .bool b, .int .i64 cx, .int .i64 cy, .int .i64 x1, .int .i64 y1]] W fun en w' => en = .returned (.bool r) ∧ Grown W w' := by
  have CN := Lib.hid (fun v Z hz => near_any v [x0, y0, cx, cy, x1, y1] (by show 6 < 1000000; omega) Z hz)
  rw [← hm] at CN
  have HR := Lib.hid hr
  clear hm hr
  rcases m with _ | _
  · go_enter Try.func23, Try.ntmps23
    go_wp2_with fail
    with_reducible refine (CN.out _ _ ?hread).mono ?_
    case hread => exact rdI_lit _ _ _ _ _ _ rfl rfl (by simp)
    rintro e w1 ⟨rfl, rfl⟩
    go_wp2_with fail
    go_ret
    exact ⟨ret_bool (by rw [HR.out]; rfl), by repeat (first | exact Grown.refl _ | apply Grown.drew | apply Grown.alloc)⟩
  rcases b with _ | _
  · by_cases h1 : cx = 0
    · subst h1
      by_cases h2 : cy = 0
      · subst h2
        go_enter Try.func23, Try.ntmps23
        go_wp2_with fail
        with_reducible refine (CN.out _ _ ?hread).mono ?_
        case hread => exact rdI_lit _ _ _ _ _ _ rfl rfl (by simp)
        rintro e w1 ⟨rfl, rfl⟩
        go_wp2_with fail
        go_ret
        exact ⟨ret_bool (by rw [HR.out]; rfl), by repeat (first | exact Grown.refl _ | apply Grown.drew | apply Grown.alloc)⟩
      · have k2 : (cy == 0) = false := beq_eq_false_iff_ne.2 h2
        clear h2
        go_enter Try.func23, Try.ntmps23
        go_wp2_with fail
        with_reducible refine (CN.out _ _ ?hread).mono ?_
        case hread => exact rdI_lit _ _ _ _ _ _ rfl rfl (by simp)
        rintro e w1 ⟨rfl, rfl⟩
        go_wp2_with fail
        go_ret
        exact ⟨ret_bool (by rw [HR.out, k2]; rfl), by repeat (first | exact Grown.refl _ | apply Grown.drew | apply Grown.alloc)⟩
    · have k1 : (cx == 0) = false := beq_eq_false_iff_ne.2 h1
      clear h1
      go_enter Try.func23, Try.ntmps23
      go_wp2_with fail
      with_reducible refine (CN.out _ _ ?hread).mono ?_
      case hread => exact rdI_lit _ _ _ _ _ _ rfl rfl (by simp)
      rintro e w1 ⟨rfl, rfl⟩
      go_wp2_with fail
      go_ret
      exact ⟨ret_bool (by rw [HR.out, k1]; rfl), by repeat (first | exact Grown.refl _ | apply Grown.drew | apply Grown.alloc)⟩
  · go_enter Try.func23, Try.ntmps23
    go_wp2_with fail
    with_reducible refine (CN.out _ _ ?hread).mono ?_
    case hread => exact rdI_lit _ _ _ _ _ _ rfl rfl (by simp)
    rintro e w1 ⟨rfl, rfl⟩
    go_wp2_with fail
    go_ret
    exact ⟨ret_bool (by rw [HR.out]; rfl), by repeat (first | exact Grown.refl _ | apply Grown.drew | apply Grown.alloc)⟩
theorem Pl.may_dec (e : Pl.Ed) : decide e.may = (decide (∀ x ∈ [e.x0, e.y0, e.cx, e.cy, e.x1, e.y1], Pl.crd x) && (e.b || (e.cx == 0 && e.cy == 0))) := by
  rw [Bool.eq_iff_iff, decide_eq_true_eq]
  simp only [Bool.and_eq_true, Bool.or_eq_true, decide_eq_true_eq, List.forall_mem_cons, List.not_mem_nil, beq_iff_eq]
  unfold Pl.Ed.may
  constructor
  · intro h
    exact ⟨⟨h.1, h.2.1, h.2.2.1, h.2.2.2.1, h.2.2.2.2.1, h.2.2.2.2.2.1, fun x hx => hx.elim⟩, h.2.2.2.2.2.2⟩
  · intro h
    obtain ⟨⟨a, b, c, d, f, g, _⟩, k⟩ := h
    exact ⟨a, b, c, d, f, g, k⟩
theorem may_any (e : Pl.Ed) (W : World) : Calls Try.prog 23 #[edv e] W fun en w' => en = .returned (.bool (decide e.may)) ∧ Grown W w' :=
  may_core e.x0 e.y0 e.b e.cx e.cy e.x1 e.y1 _ _ W rfl (Pl.may_dec e)
theorem bsign_ok (p q d : Int) (hp : -4611686018427387904 ≤ p ∧ p ≤ 4611686018427387904) (h : Pl.okq q d) (w : World) :
    Calls Try.prog 38 #[.int .i64 p, .int .i64 q, .int .i64 d] w fun e w' => e = .returned (.int .i64 (Pl.rsign p q d)) ∧ Grown w w' := by
  have C := Lib.hid (rsign_ok p q d hp h w)
  obtain ⟨r, hr⟩ : ∃ r, r = Pl.rsign p q d := ⟨_, rfl⟩
  rw [← hr] at C ⊢
  clear hr hp h
  go_enter Try.func38, Try.ntmps38
  go_wp2_with fail
  refine C.out.mono ?_
  rintro e w1 ⟨rfl, g1⟩
  go_wp2_with fail
  go_ret
  exact ⟨rfl, g1⟩
end Go.Proofs.Ytnienpalbfgflaa
