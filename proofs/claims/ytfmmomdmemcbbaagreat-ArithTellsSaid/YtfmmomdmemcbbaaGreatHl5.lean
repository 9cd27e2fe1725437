/- A region that draws its order and ends in stores: what only  -/
import Derived.Test.YtfmmomdmemcbbaaGreatM7
import Derived.OrdersHeld
import Derived.Deep.RegionHeld
namespace Go.Proofs.YtfmmomdmemcbbaaGreat
set_option linter.unusedVariables false
open Go.RowKit
@[irreducible] def wpHx (P : Program) (ops : Array Oper) (Q : Exit → Act → World → Prop) (S : World → Prop) (fuel : Nat) (listed : Array Bool) (a : Act) (w : World) : Prop := wpAnyH P .any ops Q S fuel listed a w
@[irreducible] def yAt (P : Program) (o : Oper) (a : Act) (w : World) (v : Value) : Prop := (execOp a.eval o).run P w = .ok (.value v) w
theorem hx_start {P : Program} {S : World → Prop} {id : Nat} {Q : Exit → Act → World → Prop} {a : Act} {w : World} {l : List Oper} (n : Nat) (hn : l.length = n) (hm : P.follows .mixedOrders = true) (h : wpHx P l.toArray Q S n (Array.replicate n false) a w.drew) : (Code.region id l.toArray true).wp P Q a w := by
  subst hn
  unfold wpHx at h
  refine wp_region_held (S := S) hm ?_
  simpa using h
theorem hx_take {P : Program} {ops : Array Oper} {Q : Exit → Act → World → Prop} {S : World → Prop} (i : Nat) (oi : Oper) (v : Value) {fuel : Nat} {listed : Array Bool} {a : Act} {w : World} (hi : ops[i]? = some oi)
    (hs : Region.noSelect ops = true) (hf : Region.free .any ops listed i = true) (hr : (Region.ready .any ops listed).contains i = true)
    (hQ : ∀ c a w, Q (.panic c) (a.put oi.dst v) w → Q (.panic c) a w) (hw : Region.wanted oi (yielded ops a.tmps) = true) (hy : ∀ w, S w → yAt P oi a w v) (hS : S w)
    (h : wpHx P ops Q S fuel (listed.setIfInBounds i true) (a.put oi.dst v) w) : wpHx P ops Q S (fuel + 1) listed a w := by
  unfold wpHx at h ⊢
  unfold yAt at hy
  exact wpAnyH_take hi hs hf hr hQ (.inl ⟨hw, hy⟩) hS h
theorem hx_one {P : Program} {ops : Array Oper} {Q : Exit → Act → World → Prop} {S : World → Prop} (i : Nat) (oi : Oper) {fuel : Nat} {listed : Array Bool} {a : Act} {w : World} (hi : ops[i]? = some oi)
    (hr : Region.ready .any ops listed = [i]) (hw : Region.wanted oi (yielded ops a.tmps) = true)
    (h : ∀ K : Act → World → Prop, Hid (∀ a w, S w → wpHx P ops Q S fuel (listed.setIfInBounds i true) a w → K a w) → Oper.wp P oi a w K Q) : wpHx P ops Q S (fuel + 1) listed a w := by
  unfold wpHx at h ⊢
  refine wpAnyH_ready hr (by simp) (AllReadyH.cons hi (fun K hK => ?_) AllReadyH.nil)
  rw [if_pos hw]
  exact h K (Lib.hid (fun a w hS hh => hK.out a w hS (fun _ => hh)))
theorem hx_done {P : Program} {ops : Array Oper} {Q : Exit → Act → World → Prop} {S : World → Prop} {fuel : Nat} {listed : Array Bool} {a : Act} {w : World} (hr : Region.ready .any ops listed = []) (h : Q .normal a w) : wpHx P ops Q S fuel listed a w := by
  unfold wpHx
  exact wpAnyH_done hr h _
end Go.Proofs.YtfmmomdmemcbbaaGreat
