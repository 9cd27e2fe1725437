/- The walks of op.Count, Name, Family and Number. -/
import Derived.Test.YtenmbkngkabonaaP4
namespace Go.Proofs.Ytenmbkngkabonaa
set_option linter.unusedVariables false
open Go.RowKit

theorem opT_size : (rangedText Try.f58).size < 100000 := by decide +kernel
/-- what the text is known by -/
def Pl.OpT (T : ByteArray) : Prop := rangedText Try.f58 = T ∧ T.data.toList.all (fun b => decide (b < 128)) = true ∧ (Pl.yields T).length = 162 ∧ T.size < 100000
theorem Pl.opT_is : Pl.OpT (rangedText Try.f58) := ⟨rfl, opT_ascii, opT_len, opT_size⟩

theorem count_any (w : World) : Calls Try.prog 18 #[] w fun e w' => e = .returned (.int .i64 162) ∧ Grown w w' := by
  obtain ⟨T, hT⟩ : ∃ T, Pl.OpT T := ⟨_, Pl.opT_is⟩
  have E := Lib.hid (fun W (h : W.cell? ⟨w.heap.size, 0, none⟩ = some (.int .i64 0)) hs hf hg => each_count T hT.1 hT.2.1 hT.2.2.1 hT.2.2.2 w W w.heap.size hs (Nat.le_refl _) h hf hg)
  clear hT
  have hmf : ∀ (fn : Fn) (first cap : Array Value) (w : World), (Instr.makeFunc fn first cap).run Try.prog w = .ok (.func fn first cap) w := fun _ _ _ _ => rfl
  go_enter Try.func18, Try.ntmps18
  go_wp2_with fail
  refine (E.out _ (by simp [go_sem]) (by simp) (by rw [frozen?_alloc_cells]; simp [World.frozen?]) ((Grown.refl w).alloc _ _)).mono ?_
  rintro e w2 ⟨rfl, h2, g2⟩
  go_wp2
  go_ret
  exact ⟨rfl, g2⟩

theorem name_any (T : ByteArray) (hT : Pl.OpT T) (N : Int) (w : World) : Calls Try.prog 20 #[.int .i64 N] w fun e w' => e = .returned (.string (Pl.opWord T N)) ∧ Grown w w' := by
  have E := Lib.hid (fun W (h : W.cell? ⟨w.heap.size, 0, none⟩ = some (.int .i64 N)) (h' : W.cell? ⟨w.heap.size + 1, 0, none⟩ = some (.string ⟨#[]⟩)) h1 h2 hf hg => each_name T hT.1 hT.2.1 hT.2.2.1 hT.2.2.2 w W w.heap.size (w.heap.size + 1) N h1 h2 (by omega) (by omega) h h' hf hg)
  clear hT
  have hmf : ∀ (fn : Fn) (first cap : Array Value) (w : World), (Instr.makeFunc fn first cap).run Try.prog w = .ok (.func fn first cap) w := fun _ _ _ _ => rfl
  go_enter Try.func20, Try.ntmps20
  go_wp2_with fail
  refine (E.out _ (by simp [go_sem]) (by simp [go_sem]) (by first | (simp; done) | (simp; omega)) (by first | (simp; done) | (simp; omega)) (by rw [frozen?_alloc_cells, frozen?_alloc_cells]; simp [World.frozen?]) (((Grown.refl w).alloc _ _).alloc _ _)).mono ?_
  rintro e w2 ⟨rfl, h2, g2⟩
  go_wp2
  go_ret
  exact ⟨rfl, g2⟩

theorem family_any (T : ByteArray) (hT : Pl.OpT T) (N : Int) (w : World) : Calls Try.prog 22 #[.int .i64 N] w fun e w' => e = .returned (.int .i64 (Pl.opFam T N)) ∧ Grown w w' := by
  have E := Lib.hid (fun W (h : W.cell? ⟨w.heap.size, 0, none⟩ = some (.int .i64 N)) (h' : W.cell? ⟨w.heap.size + 1, 0, none⟩ = some (.int .i64 0)) h1 h2 hf hg => each_family T hT.1 hT.2.1 hT.2.2.1 hT.2.2.2 w W w.heap.size (w.heap.size + 1) N h1 h2 (by omega) (by omega) h h' hf hg)
  clear hT
  have hmf : ∀ (fn : Fn) (first cap : Array Value) (w : World), (Instr.makeFunc fn first cap).run Try.prog w = .ok (.func fn first cap) w := fun _ _ _ _ => rfl
  go_enter Try.func22, Try.ntmps22
  go_wp2_with fail
  refine (E.out _ (by simp [go_sem]) (by simp [go_sem]) (by first | (simp; done) | (simp; omega)) (by first | (simp; done) | (simp; omega)) (by rw [frozen?_alloc_cells, frozen?_alloc_cells]; simp [World.frozen?]) (((Grown.refl w).alloc _ _).alloc _ _)).mono ?_
  rintro e w2 ⟨rfl, h2, g2⟩
  go_wp2
  go_ret
  exact ⟨rfl, g2⟩

theorem number_any (T : ByteArray) (hT : Pl.OpT T) (NM : ByteArray) (w : World) : Calls Try.prog 16 #[.string NM] w fun e w' => e = .returned (.tuple #[.int .i64 (Pl.opNum T NM), .bool (Pl.opFind T NM).isSome]) ∧ Grown w w' := by
  have E := Lib.hid (fun W (h : W.cell? ⟨w.heap.size, 0, none⟩ = some (.string NM)) (h' : W.cell? ⟨w.heap.size + 1, 0, none⟩ = some (.int .i64 0)) (h'' : W.cell? ⟨w.heap.size + 2, 0, none⟩ = some (.bool false)) h1 h2 h3 hf hf' hg => each_number T NM hT.1 hT.2.1 hT.2.2.2 w W w.heap.size (w.heap.size + 1) (w.heap.size + 2) h1 h2 h3 (by omega) (by omega) (by omega) (by omega) (by omega) h h' hf h'' hf' hg)
  clear hT
  have hmf : ∀ (fn : Fn) (first cap : Array Value) (w : World), (Instr.makeFunc fn first cap).run Try.prog w = .ok (.func fn first cap) w := fun _ _ _ _ => rfl
  go_enter Try.func16, Try.ntmps16
  go_wp2_with fail
  refine (E.out _ (by simp [go_sem]) (by simp [go_sem]) (by simp [go_sem]) (by first | (simp; done) | (simp; omega)) (by first | (simp; done) | (simp; omega)) (by first | (simp; done) | (simp; omega)) (by rw [frozen?_alloc_cells, frozen?_alloc_cells, frozen?_alloc_cells]; simp [World.frozen?]) (by rw [frozen?_alloc_cells, frozen?_alloc_cells, frozen?_alloc_cells]; simp [World.frozen?]) ((((Grown.refl w).alloc _ _).alloc _ _).alloc _ _)).mono ?_
  rintro e w2 ⟨rfl, h2, h3, f2, f3, g2⟩
  go_wp2_with fail
  go_region
  go_wp2_with fail
  have k1 : ((w2.setCell ⟨w.heap.size + 1, 0, none⟩ (.int .i64 (Pl.opNum T NM))).setCell ⟨w.heap.size + 2, 0, none⟩ (.bool (Pl.opFind T NM).isSome)).cell? ⟨w.heap.size + 1, 0, none⟩ = some (.int .i64 (Pl.opNum T NM)) := by
    rw [World.cell?_setCell_other (h := by intro h; injection h with h; omega), World.cell?_setCell_same' _ _ _ (by rw [h2]; rfl)]
  have k2 : ((w2.setCell ⟨w.heap.size + 1, 0, none⟩ (.int .i64 (Pl.opNum T NM))).setCell ⟨w.heap.size + 2, 0, none⟩ (.bool (Pl.opFind T NM).isSome)).cell? ⟨w.heap.size + 2, 0, none⟩ = some (.bool (Pl.opFind T NM).isSome) := by
    rw [World.cell?_setCell_same' _ _ _ (by rw [World.cell?_setCell_other (h := by intro h; injection h with h; omega), h3]; rfl)]

  refine bodyPost_ret (v := .tuple #[.int .i64 (Pl.opNum T NM), .bool (Pl.opFind T NM).isSome]) (by simp [results, Try.results16, go_sem, k1, k2]) rfl ⟨rfl, (g2.setCell (by show w.heap.size ≤ w.heap.size + 1; omega) _).setCell (by show w.heap.size ≤ w.heap.size + 1 + 1; omega) _⟩
end Go.Proofs.Ytenmbkngkabonaa
