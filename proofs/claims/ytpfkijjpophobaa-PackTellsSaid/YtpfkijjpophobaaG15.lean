/- tympanlaw9.known: the walk. -/
import Derived.Test.YtpfkijjpophobaaG14
namespace Go.Proofs.Ytpfkijjpophobaa
set_option linter.unusedVariables false
open Go.RowKit

/-- a row of words just built -/
theorem rdT_lit (W : World) (T : List Pl.Tok) (A : Array Value) (hA : A.toList = Pl.flatT T) : RdT (.slice (some ⟨W.heap.size, 0, none⟩) T.length T.length) T (W.alloc (.cells A 48)) :=
  ⟨_, T.length, rfl, Nat.le_refl _, .inr ⟨W.heap.size, 0, rfl, by simp, fun j u hu => by
    have h := alloc_cell W A 48 j u (by rw [hA]; exact hu)
    rw [Addr.add_lit] at h
    exact h⟩⟩
/-- the first of the words of a row that is ours -/
theorem own_first {base : Nat} {v : Value} {t : Pl.Tok} {T : List Pl.Tok} {W : World} (c : W.ownsRow base 48 4 v (t :: T).length (Pl.flatT (t :: T))) : ∃ g cap, v = .slice (some ⟨g, 0, none⟩) (t :: T).length cap ∧ g < W.heap.size ∧
    W.cell? ⟨g, 0, none⟩ = some (.int .i64 t.k) ∧ W.cell? ⟨g, 1, none⟩ = some (.int .i64 t.n) ∧ W.cell? ⟨g, 2, none⟩ = some (.string (Pl.tx t.s)) ∧ W.cell? ⟨g, 3, none⟩ = some (.int .i64 t.a) := by
  have hl := own_lt c
  rcases c.2 with ⟨_, h0⟩ | ⟨g, cap, cur, rfl, hb, hg, hc, r⟩
  · simp at h0
  · refine ⟨g, cap, rfl, hl g rfl, ?_, ?_, ?_, ?_⟩
    · rw [c.cellAt 0 (by simp)]; rfl
    · rw [c.cellAt 1 (by simp; omega)]; rfl
    · rw [c.cellAt 2 (by simp; omega)]; rfl
    · rw [c.cellAt 3 (by simp; omega)]; rfl
set_option maxRecDepth 100000 in
theorem known9 (w : World) : Calls Try.prog 22 #[] w fun e w' => e = .returned (.bool true) ∧ Fr (fun _ => False) w w' := by
  obtain ⟨T, hT⟩ : ∃ T : List Pl.Tok, T = [⟨1, -1, [], 0⟩] := ⟨_, rfl⟩
  have hE : Pl.enc T = [244, 84, 80, 1, 1, 1] := by
    rw [hT]
    simp only [Pl.enc, List.flatMap_cons, List.flatMap_nil, List.append_nil, Pl.Tok.bytes]
    rw [show Pl.fold (-1) = 1 from rfl, Pl.num7_lo 1 (by omega)]
    rfl
  have hM : ∀ t ∈ T, t.may = true := fun t ht => by
    rw [hT] at ht
    obtain rfl := List.mem_singleton.1 ht
    rfl
  have hP : Pl.putAll T = (Pl.enc T, 0) := by
    unfold Pl.putAll
    rw [if_neg (by rw [List.all_eq_true.2 hM]; decide), if_neg (by rw [hE]; decide)]
  have hK : Pl.takeAll (Pl.enc T) = (Pl.lab 4 T, 0, 0) := Pl.takeAll_enc T hM (by rw [hT]; decide) (by rw [hE]; decide)
  have CP := fun Z hz => put_all (.slice (some ⟨w.heap.size, 0, none⟩) 1 1) T (by rw [hT]; decide) (fun t ht => by rw [hT] at ht; obtain rfl := List.mem_singleton.1 ht; exact ⟨by decide, by decide, by decide⟩) Z hz
  rw [hP] at CP
  have CT := fun v Z hz => take_all v (Pl.enc T) (by rw [hE]; decide) Z hz
  rw [hK] at CT
  have CI := fun v Z hz => is_any v (Pl.enc T) (by rw [hE]; decide) Z hz
  rw [show Pl.isHd (Pl.enc T) = true by rw [hE]; rfl] at CI
  have HA := Lib.hid (rdT_lit w T #[.int .i64 1, .int .i64 (-1), .string ⟨#[]⟩, .int .i64 0] (by rw [hT]; rfl))
  have HCP := Lib.hid CP
  have HCT := Lib.hid CT
  have HCI := Lib.hid CI
  have HE := Lib.hid hE
  have HT := Lib.hid hT
  clear CP CT CI hE hM hP hK hT
  go_enter Try.func22, Try.ntmps22
  go_wp2_with fail
  refine (HCP.out _ (by have := HA.out; rw [HT.out] at this ⊢; exact this)).mono ?_
  rintro e w1 ⟨v1, rfl, o1, f1⟩
  have O1 := Lib.hid o1
  have F1 := Lib.hid ((Fr.alloc (fun _ => False) w _).trans f1)
  clear o1 f1
  go_wp2_with fail
  refine (HCT.out _ _ O1.out.rd).mono ?_
  rintro e w2 ⟨lv, rfl, r2, f2⟩
  have O2 := Lib.hid (O1.out.rd.fr0 f2)
  have F2 := Lib.hid (F1.out.trans f2)
  rw [HT.out] at r2
  obtain ⟨g, cap, rfl, hg, c0, c1, c2, c3⟩ := own_first r2
  have k1 : (convert 30 9 v1).run Try.prog w2 = .ok (.string ⟨#[244, 84, 80, 1, 1, 1]⟩) w2 := by
    have := conv30 O2.out
    rw [HE.out] at this
    exact this
  clear f2 r2
  go_wp2_with fail
  refine (HCI.out _ _ O2.out).mono ?_
  rintro e w3 ⟨rfl, f3⟩
  have F3 := Lib.hid (F2.out.trans f3)
  clear f3
  go_wp2_with fail
  go_ret
  exact ⟨rfl, F3.out⟩
end Go.Proofs.Ytpfkijjpophobaa
