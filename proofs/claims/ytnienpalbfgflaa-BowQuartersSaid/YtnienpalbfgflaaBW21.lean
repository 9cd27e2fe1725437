/- tympanlaw26.sum: the walk. -/
import Derived.Test.YtnienpalbfgflaaBW14
import Derived.Test.YtnienpalbfgflaaB6
namespace Go.Proofs.Ytnienpalbfgflaa
set_option linter.unusedVariables false
open Go.RowKit

/-- a row of edges -/
def RdE (v : Value) (es : List Pl.Ed) (W : World) : Prop := ∃ g cap, v = .slice (some ⟨g, 0, none⟩) es.length cap ∧ es.length ≤ cap ∧ g < W.heap.size ∧ ∀ (j : Nat) (e : Pl.Ed), es[j]? = some e → W.cell? ⟨g, j * 7, none⟩ = some (.int .i64 e.x0) ∧ W.cell? ⟨g, j * 7 + 1, none⟩ = some (.int .i64 e.y0) ∧ W.cell? ⟨g, j * 7 + 2, none⟩ = some (.bool e.b) ∧ W.cell? ⟨g, j * 7 + 3, none⟩ = some (.int .i64 e.cx) ∧ W.cell? ⟨g, j * 7 + 4, none⟩ = some (.int .i64 e.cy) ∧ W.cell? ⟨g, j * 7 + 5, none⟩ = some (.int .i64 e.x1) ∧ W.cell? ⟨g, j * 7 + 6, none⟩ = some (.int .i64 e.y1)
theorem RdE.fr0 {v : Value} {es : List Pl.Ed} {W W' : World} (h : RdE v es W) (k : Fr (fun _ => False) W W') : RdE v es W' := by
  obtain ⟨g, cap, rfl, hc, hg, h⟩ := h
  refine ⟨g, cap, rfl, hc, Nat.lt_of_lt_of_le hg k.2.2.1, fun j e he => ?_⟩
  obtain ⟨a0, a1, a2, a3, a4, a5, a6⟩ := h j e he
  have c : ∀ o, W'.cell? ⟨g, o, none⟩ = W.cell? ⟨g, o, none⟩ := fun o => k.cell (a := ⟨g, o, none⟩) hg (fun f => f)
  exact ⟨(c _).trans a0, (c _).trans a1, (c _).trans a2, (c _).trans a3, (c _).trans a4, (c _).trans a5, (c _).trans a6⟩
def Pl.sumT (es : List Pl.Ed) (x y : Int) : Int := (es.map fun e => Pl.turns e x y).sum
theorem Pl.sumT_take (es : List Pl.Ed) (x y : Int) (j : Nat) (e : Pl.Ed) (h : es[j]? = some e) : Pl.sumT (es.take (j + 1)) x y = Pl.sumT (es.take j) x y + Pl.turns e x y := by
  unfold Pl.sumT
  rw [List.take_add_one, h, List.map_append, List.sum_append]
  simp
set_option maxHeartbeats 4000000 in
set_option maxRecDepth 100000 in
theorem sum_any (v : Value) (es : List Pl.Ed) (x y : Int) (hm : es.length ≤ 100) (w : World) (h : RdE v es w) :
    Calls Try.prog 26 #[v, .int .i64 x, .int .i64 y] w fun en w' => en = .returned (.int .i64 (Pl.sumT es x y)) ∧ Fr (fun _ => False) w w' := by
  have HR := Lib.hid h
  obtain ⟨g, cap, rfl, hc, _, _⟩ := h
  obtain ⟨m, hme⟩ : ∃ m, m = es.length := ⟨_, rfl⟩
  have HM := Lib.hid hme
  rw [← hme] at HR hm hc ⊢
  clear hme
  have KT := Lib.hid (fun (e : Pl.Ed) (Z : World) => turns_fr e x y Z)
  go_enter Try.func26, Try.ntmps26
  go_wp2_with fail
  go_loopw [7, 8] (fun s i wr => ∃ (j : Nat) (n : Int), i = .int .i64 (j : Int) ∧ s = .int .i64 n ∧ j ≤ m ∧ (-1000 ≤ n ∧ n ≤ 1000) ∧ Hid (n = Pl.sumT (es.take j) x y ∧ -(2 * (j : Int)) ≤ n ∧ n ≤ 2 * (j : Int)) ∧ Hid (Fr (fun _ => False) w wr)) (fun _ i _ => ((m : Int) - intOf i).toNat)
  case atStart => exact ⟨0, 0, rfl, rfl, by omega, by omega, Lib.hid ⟨rfl, by omega, by omega⟩, Lib.hid (Fr.refl _ _)⟩
  case round =>
    obtain ⟨j, n, rfl, rfl, hj, ⟨hn1, hn2⟩, HN, HF⟩ := hrel
    by_cases hjm : j = m
    · have HW : Hid (n = Pl.sumT es x y) := Lib.hid (by
        have := HN.out.1
        rw [hjm, HM.out, List.take_length] at this
        exact this)
      subst hjm
      go_wp2_with fail
      go_ret
      exact ⟨ret_int HW.out, HF.out⟩
    · have hjI : (j : Int) < (m : Int) := by omega
      have HJ := Lib.hid (show j < m by omega)
      obtain ⟨e, he⟩ : ∃ e, es[j]? = some e := ⟨_, List.getElem?_eq_getElem (by have := HM.out; omega)⟩
      obtain ⟨g2, cap2, hv, _, _, hr⟩ := HR.out.fr0 HF.out
      injection hv with q1 q2 q3
      injection q1 with q1
      injection q1 with q1 _ _
      subst q1
      clear q2 q3
      have C := hr j e he
      have HT := Lib.hid (Pl.sumT_take es x y j e he)
      have HB := Lib.hid (Pl.cnt_bd2 e x y)
      obtain ⟨x0, y0, b, cx, cy, x1, y1⟩ := e
      obtain ⟨c0, c1, c2, c3, c4, c5, c6⟩ := C
      simp only at c0 c1 c2 c3 c4 c5 c6
      have KE := Lib.hid (KT.out ⟨x0, y0, b, cx, cy, x1, y1⟩)
      simp only [edv] at KE
      obtain ⟨t, ht⟩ : ∃ t, t = Pl.turns ⟨x0, y0, b, cx, cy, x1, y1⟩ x y := ⟨_, rfl⟩
      rw [← ht] at KE HT HB
      have bt := HB.out
      have bnt : -998 ≤ n ∧ n ≤ 998 := by have := HN.out; have := HJ.out; omega
      clear hr he ht HB KT hjm hn1 hn2
      go_wp2_with fail
      refine (KE.out _).mono ?_
      rintro en w2 ⟨rfl, f2⟩
      have F2 := Lib.hid (HF.out.trans f2)
      clear f2 c0 c1 c2 c3 c4 c5 c6
      go_wp2_with fail
      refine ⟨?_, by simp [intOf]; omega⟩
      repeat (refine Exists.intro (α := Value) _ ?_)
      first
        | exact ⟨j + 1, _, by simp, rfl, by have := HJ.out; omega, by have := HN.out; have := HJ.out; omega, Lib.hid ⟨by rw [HT.out]; have := HN.out.1; omega, by have := HN.out; omega, by have := HN.out; omega⟩, F2⟩
        | (refine ⟨⟨j + 1, _, by simp, rfl, by have := HJ.out; omega, by have := HN.out; have := HJ.out; omega, Lib.hid ⟨by rw [HT.out]; have := HN.out.1; omega, by have := HN.out; omega, by have := HN.out; omega⟩, F2⟩, ?_⟩
           repeat (first | exact rfl | refine ⟨rfl, ?_⟩))
end Go.Proofs.Ytnienpalbfgflaa
