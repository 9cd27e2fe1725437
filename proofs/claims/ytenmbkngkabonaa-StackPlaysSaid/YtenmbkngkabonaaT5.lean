/- copy of elements of many cells; (*stack.Stack).top. -/
import Derived.Test.YtenmbkngkabonaaT4
import Derived.Laws.CopyOwn
namespace Go.Proofs.Ytenmbkngkabonaa
set_option linter.unusedVariables false
open Go.RowKit

theorem run_copy_wide {P : Program} (w : World) (dT sT ty elem : TypeId) (g o dLen dCap : Nat) (a : Addr) (sLen sCap m size : Nat) (cur : Array Value) (t : TypeId) (cs : List Value)
    (hu : P.underlying dT = some (.slice elem)) (hs : (P.info? elem).map (·.size) = some size)
    (hg : w.heap[g]? = some (.cells cur t (0, 0))) (hm : m = Nat.min sLen dLen) (hn : cs.length = m * size)
    (hsrc : ∀ j v, cs[j]? = some v → w.cell? (a.add j) = some v) (hfit : o + cs.length ≤ cur.size) (h1 : ∀ v ∈ cs, v.oneCell' = true) :
    (Builtin.copy_ #[dT, sT] ty #[.slice (some ⟨g, o, none⟩) dLen dCap, .slice (some a) sLen sCap]).run P w =
      .ok (goInt m) (w.setRow g (cur.toList.take o ++ cs ++ cur.toList.drop (o + cs.length)).toArray) := by
  have hl := run_loadCells_list (P := P) w a cs hsrc
  have hst := run_storeCells_at P g o t cs 0 cur w hg (by simpa using hfit) h1
  cases hq : P.info? elem with
  | none => simp [hq] at hs
  | some i =>
    have hi : i.size = size := by simpa [hq] using hs
    simp [Builtin.copy_, run_underlying hu, Builtin.lenOf, Builtin.firstCells, sizeOf, typeInfo, hq, hi, ← hm, ← hn, hl, hst]
theorem step_copy_wide {P : Program} {ops : Array Oper} {o : Oper} {a : Act} {w : World} {K : Act → World → Prop} {Q : Exit → Act → World → Prop} {E : Prop} (hgd : o.guard = none) (d s : Operand) (dT sT : TypeId)
    (ho : o.op = .call { callee := .builtin .copy, args := #[d, s], argTypes := #[dT, sT] }) (elem : TypeId) (size : Nat) (hu : P.underlying dT = some (.slice elem)) (hsz : (P.info? elem).map (·.size) = some size)
    (g off dLen dCap : Nat) (ad : Addr) (sLen sCap m : Nat) (hd : a.eval d = .slice (some ⟨g, off, none⟩) dLen dCap) (hs : a.eval s = .slice (some ad) sLen sCap)
    (cur : Array Value) (t : TypeId) (hg : w.heap[g]? = some (.cells cur t (0, 0))) (cs : List Value) (hm : m = Nat.min sLen dLen) (hn : cs.length = m * size)
    (hsrc : ∀ j v, cs[j]? = some v → w.cell? (ad.add j) = some v) (hfit : off + cs.length ≤ cur.size) (h1 : ∀ v ∈ cs, v.oneCell' = true)
    (h : K (a.put o.dst (goInt m)) (w.setRow g (cur.toList.take off ++ (cs ++ cur.toList.drop (off + cs.length))).toArray)) :
    if Region.wanted o (yielded ops a.tmps) = true then Oper.wp P o a w K Q else E := by
  have hw : Region.wanted o (yielded ops a.tmps) = true := by simp [Region.wanted, hgd]
  rw [if_pos hw]
  have hrun := run_copy_wide (P := P) w dT sT o.type elem g off dLen dCap ad sLen sCap m size cur t cs hu hsz hg hm hn hsrc hfit h1
  unfold Oper.wp
  simp [execOp, ho, resolve, invoke, builtin, hd, hs, hrun, Result.andThen]
  exact h
theorem Fr.setRow (P : Nat → Prop) (W : World) (g : Nat) (cs : Array Value) (h : P g) : Fr P W (W.setRow g cs) :=
  ⟨rfl, rfl, by simp [World.setRow], fun i hi hp => setRow_other _ _ _ _ (fun e => hp (e ▸ h))⟩

theorem top_ok (base p : Nat) (v : Value) (L : List Pl.Ob) (n : Nat) (hn : 1 ≤ n) (hnl : n ≤ L.length) (hlen : L.length ≤ 300) (W : World) (hS : StkV base p v L W) :
    ∃ g cap, v = .slice (some ⟨g, 0, none⟩) L.length cap ∧ Calls Try.prog 65 #[.pointer (some ⟨p, 0, none⟩), .int .i64 (n : Int)] W fun e w' => e = .returned (.tuple #[.slice (some ⟨g, (L.length - n) * 6, none⟩) n n, .int .i64 0]) ∧ Grown W w' := by
  obtain ⟨o, ho⟩ : ∃ o, L[0]? = some o := ⟨_, List.getElem?_eq_getElem (by omega)⟩
  obtain ⟨g, cap, rfl, hcap, _⟩ := hS.at 0 o ho
  refine ⟨g, cap, rfl, ?_⟩
  obtain ⟨h0, h1, hown, hne, hp⟩ := id hS
  clear hS ho
  obtain ⟨d, hd⟩ : ∃ d, L.length = d + n := ⟨L.length - n, by omega⟩
  rw [hd] at h0 hcap hlen
  rw [hd]
  have e1 : ((d + n : Nat) : Int) - (n : Int) = d := by omega
  have e2 : d + n - n = d := by omega
  have e3 := Lib.hid (show d + n - d = n by omega)
  rw [e2]
  have c1 : (n : Int) ≤ ((d + n : Nat) : Int) := by omega
  have c2 : ((d + n : Nat) : Int) ≤ 300 := by omega
  have c3 : (0 : Int) ≤ (d : Int) := by omega
  have c4 : (d : Int) ≤ ((d + n : Nat) : Int) := by omega
  have c5 : ((d + n : Nat) : Int) ≤ (cap : Int) := by omega
  have c6 : 1 ≤ (n : Int) := by omega
  clear hown hne hd
  go_enter Try.func65, Try.ntmps65
  go_wp2_with fail
  go_region
  all_goals
    go_wp2_with fail
    go_ret2
    refine ⟨?_, by (repeat (first | exact Grown.refl _ | assumption | apply Grown.drew | apply Grown.alloc))⟩
    show Ending.returned (.tuple #[.slice (some ⟨g, d * 6, none⟩) (d + n - d) (d + n - d), .int .i64 0]) = _
    rw [e3.out]
end Go.Proofs.Ytenmbkngkabonaa
