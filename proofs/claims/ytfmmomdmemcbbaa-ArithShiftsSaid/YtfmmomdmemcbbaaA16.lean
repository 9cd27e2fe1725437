/- what is run, with the row owned. -/
import Derived.Test.YtfmmomdmemcbbaaM6
namespace Go.Proofs.Ytfmmomdmemcbbaa
set_option linter.unusedVariables false
open Go.RowKit

section
variable {P : Program} (w : World) (base : Nat) (t : TypeId) (e : TypeId) (i : TypeInfo) (z : Value) (size bytes : Nat) (ht : P.underlying t = some (.slice e)) (hi : P.info? e = some i) (hz : i.zero = some z)
    (hsize : i.size = size) (hby : i.bytes = bytes) (hzs : z.cells.size = size) (hsz : 0 < size)
    (v : Value) (n : Nat) (xs : List Value) (hown : w.ownsRow base e size v n xs)
    (ao : Option Addr) (m c : Nat) (news : List Value) (hnone : ao = none → m = 0) (hl : news.length = m * size) (hnews : ∀ ad, ao = some ad → ∀ j u, news[j]? = some u → w.cell? (ad.add j) = some u) (h1 : ∀ u ∈ news, u.oneCell' = true)
    (h63 : n + m ≤ maxLen) (hbytes : (n + m) * bytes ≤ 140737488355328) (hbase : base ≤ w.heap.size)
include ht hi hz hsize hby hzs hsz hown hnone hl hnews h1 h63 hbytes hbase
/-- append of any row, empty ones too -/
theorem run_append_keep (ty : TypeId) : ∃ v' w', (Builtin.append_ #[t, t] ty #[v, .slice ao m c]).run P w = .ok v' w' ∧ w'.ownsRow base e size v' (n + m) (xs ++ news) ∧ w.grownBy w' v.ownBlock ∧ (∀ g, v'.ownBlock = some g → v.ownBlock = some g ∨ w.heap.size ≤ g) ∧ ∀ g2 j u, v.ownBlock = some g2 → xs[j]? = some u → w'.cell? ((⟨g2, 0, none⟩ : Addr).add j) = some u := by
  cases ao with
  | none =>
    obtain rfl := hnone rfl
    obtain rfl : news = [] := List.eq_nil_of_length_eq_zero (by simpa using hl)
    exact ⟨v, w, run_append_owned_zero (P := P) w base t ty e i size ht hi v n xs hown none c, by simpa using hown, World.grownBy.refl _ _, fun g h => .inl h, fun g2 j u h hj => hown.cells h j u hj⟩
  | some ad =>
    rcases hown.2 with ⟨rfl, rfl⟩ | ⟨g, cap, cur, rfl, hb, hg, hnc, _⟩
    · obtain rfl : xs = [] := List.eq_nil_of_length_eq_zero (by simpa using hown.1)
      obtain ⟨v', w', r1, r2, r3, _⟩ := run_append_own (P := P) w w.heap.size t ty e i z size bytes ht hi hz hsize hby hzs hsz (.slice none 0 0) 0 [] (World.ownsRow_nil w _ e size) ad m c news hl (hnews ad rfl) h1 h63 hbytes (Nat.le_refl _)
      exact ⟨v', w', r1, own_weaken r2 hbase, r3, fun g h => .inr (own_base r2 g h), fun g2 j u h hj => by simp at hj⟩
    · by_cases hroom : n + m ≤ cap
      · obtain ⟨w', r1, r2, r3⟩ := run_append_own_spare (P := P) w base t ty e i size ht hi hsize g n cap xs hown ad m c news hl (hnews ad rfl) h1 hroom
        exact ⟨_, w', r1, r2, r3, fun g2 h => .inl h, fun g2 j u h hj => r2.cells h j u (by rw [List.getElem?_append_left (List.getElem?_eq_some_iff.1 hj).1]; exact hj)⟩
      · obtain ⟨v', w', r1, r2, r3⟩ := run_append_arg_grows (P := P) w t ty e i z size bytes ht hi hz hsize hby hzs hsz ⟨g, 0, none⟩ n cap xs hown.1 (hown.cells rfl) ad m c news hl (hnews ad rfl) (by omega) h63 hbytes
        exact ⟨v', w', r1, own_weaken r2 hbase, ⟨r3.1, r3.2, r3.3, r3.4, fun k hk _ => r3.5 k hk (by simp)⟩, fun g2 h => .inr (own_base r2 g2 h), fun g2 j u h hj => (by have hc := hown.cells h j u hj; exact ((Fr.grown (fun _ => False) r3 (by simp)).cell (a := (⟨g2, 0, none⟩ : Addr).add j) (block_lt_of_cell hc) (fun q => q)).trans hc)⟩
theorem wp_append_keep {o : Oper} {a : Act} {K : Act → World → Prop} {Q : Exit → Act → World → Prop} (s x : Operand) (ho : o.op = .call { callee := .builtin .append, args := #[s, x], argTypes := #[t, t] })
    (hs : a.eval s = v) (hx : a.eval x = .slice ao m c)
    (h : ∀ v' w', w'.ownsRow base e size v' (n + m) (xs ++ news) → w.grownBy w' v.ownBlock → (∀ g, v'.ownBlock = some g → v.ownBlock = some g ∨ w.heap.size ≤ g) → (∀ g2 j u, v.ownBlock = some g2 → xs[j]? = some u → w'.cell? ((⟨g2, 0, none⟩ : Addr).add j) = some u) → K (a.put o.dst v') w') : o.wp P a w K Q := by
  obtain ⟨v', w', hr, h2, h3, h4, h5⟩ := run_append_keep (P := P) w base t e i z size bytes ht hi hz hsize hby hzs hsz v n xs hown ao m c news hnone hl hnews h1 h63 hbytes hbase o.type
  unfold Oper.wp execOp
  simp only [ho, resolve, invoke, builtin, Sem.run_bind, Sem.run_pure, Result.andThen_ok, List.map_toArray, List.map_cons, List.map_nil, hs, hx, hr]
  exact h v' w' h2 h3 h4 h5
theorem wpList_append_keep {ops : Array Oper} {rest : List Oper} {o : Oper} {a : Act} {Q : Exit → Act → World → Prop} (hgd : o.guard = none) (s x : Operand) (ho : o.op = .call { callee := .builtin .append, args := #[s, x], argTypes := #[t, t] })
    (hs : a.eval s = v) (hx : a.eval x = .slice ao m c)
    (h : ∀ v' w', w'.ownsRow base e size v' (n + m) (xs ++ news) → w.grownBy w' v.ownBlock → (∀ g, v'.ownBlock = some g → v.ownBlock = some g ∨ w.heap.size ≤ g) → (∀ g2 j u, v.ownBlock = some g2 → xs[j]? = some u → w'.cell? ((⟨g2, 0, none⟩ : Addr).add j) = some u) → wpList P ops Q rest (a.put o.dst v') w') : wpList P ops Q (o :: rest) a w :=
  wpList_plain hgd fun _ hK => wp_append_keep w base t e i z size bytes ht hi hz hsize hby hzs hsz v n xs hown ao m c news hnone hl hnews h1 h63 hbytes hbase s x ho hs hx fun v' w' h2 h3 h4 h5 => hK _ _ (h v' w' h2 h3 h4 h5)
end
theorem stk_items_own (W0 : World) (Pr : Nat → Prop) (p : Nat) (L : List Pl.Ob) (W : World) (h : Stk W0 Pr p L W) (hlen : L.length ≤ 300) :
    Calls Try.prog 21 #[.pointer (some ⟨p, 0, none⟩)] W fun e w' => ∃ vi, e = .returned vi ∧ RowP (fun c => Pr c ∨ vi.ownBlock = some c) w' vi L ∧ Stk W0 (fun c => Pr c ∨ vi.ownBlock = some c) p L w' ∧ FrS W0 Pr W w' ∧ OwnForm vi L.length ∧ w'.ownsRow W.heap.size 24 6 vi L.length (Pl.flat L) := by
  obtain ⟨v, hS, h1, h2, h3, h4, h5⟩ := id h
  refine (items_any W0.heap.size p v L hlen W hS).mono ?_
  rintro e w' ⟨vi, rfl, hown, hF⟩
  have hl := own_lt hown
  have hb := own_base hown
  refine ⟨vi, rfl, ⟨own_row hown, ?_⟩, h.protect hF ?_ ?_, hF.weaken (fun c f => f.elim), own_form hown, hown⟩
  · intro ao m c hv a ha hL
    refine .inr ?_
    rcases hown.2 with ⟨hv0, h0⟩ | ⟨g, cap, cur, hv0, _⟩
    · exact absurd (List.eq_nil_of_length_eq_zero h0) hL
    · rw [hv0] at hv
      injection hv with q1 q2 q3
      rw [ha] at q1
      injection q1 with q1
      rw [hv0, ← q1]
      rfl
  · rintro c (q | q) hc
    · exact q
    · have := hb c q
      omega
  · rintro c (q | q)
    · exact Nat.lt_of_lt_of_le (h5 c q) hF.2.2.1
    · exact hl c q
set_option maxHeartbeats 4000000 in
set_option maxRecDepth 100000 in
theorem run_own (W : World) (v : Value) (A : List Pl.Ob) (hA : RowV W v A) (hall : ∀ o ∈ A, Pl.mayO o) (hlen : A.length ≤ 200) (NM : ByteArray) (n : Int) (hn : Pl.opNum (rangedText Try.f31) NM = n) :
    Calls Try.prog 11 #[v, .string NM] W fun e w' => ∃ vi, e = .returned (.tuple #[vi, .int .i64 (Pl.doR A n).1]) ∧ RowV w' vi (Pl.doR A n).2 ∧ OwnForm vi (Pl.doR A n).2.length ∧ w'.ownsRow W.heap.size 24 6 vi (Pl.doR A n).2.length (Pl.flat (Pl.doR A n).2) ∧ Fr (fun _ => False) W w' := by
  have C1 := Lib.hid (stk_new W (fun _ => False) W (Kept.refl W) (fun _ q => q.elim))
  have C2 := Lib.hid (fun Z (hZ : Fr (fun c => W.heap.size ≤ c) W Z) (hS : Stk W (fun _ => False) W.heap.size [] Z) => stk_become W (fun _ => False) W.heap.size [] Z hS v A (hA.frNew hZ) (fun j o hj => hall o (List.mem_of_getElem? hj)) hlen)
  have C3 := Lib.hid (fun Z => number_any _ Pl.opT_is NM Z)
  rw [hn] at C3
  have C4 := Lib.hid (fun Z (hS : Stk W (fun _ => False) W.heap.size A Z) => do_any W (fun _ => False) W.heap.size A Z hlen hS hall n)
  have C5 := Lib.hid (fun Z (hS : Stk W (fun _ => False) W.heap.size (Pl.doR A n).2 Z) => stk_items_own W (fun _ => False) W.heap.size (Pl.doR A n).2 Z hS (by have := Pl.doR_len A n hlen; omega))
  generalize Pl.doR A n = RES at C4 C5 ⊢
  generalize (Pl.opFind (rangedText Try.f31) NM).isSome = OK at C3
  obtain ⟨ao, cap, rfl, _⟩ := hA
  clear hall hn hlen
  go_enter Try.func11, Try.ntmps11
  go_wp2_with fail
  refine C1.out.mono ?_
  rintro e w1 ⟨rfl, s1, f1⟩
  have S1 := Lib.hid s1
  have F1 : Hid (Fr (fun c => W.heap.size ≤ c) W w1) := Lib.hid (f1.weaken (fun c q => q.2))
  clear s1 f1 C1
  go_wp2_with fail
  refine (C2.out _ F1.out S1.out).mono ?_
  rintro e w2 ⟨rfl, s2, f2⟩
  have S2 := Lib.hid s2
  have F2 : Hid (Fr (fun c => W.heap.size ≤ c) W w2) := Lib.hid (F1.out.trans (f2.weaken (fun c q => q.2)))
  clear s2 f2 C2 F1 S1
  go_wp2_with fail
  refine (C3.out _).mono ?_
  rintro e w3 ⟨rfl, g3⟩
  have S3 := Lib.hid (S2.out.grown g3)
  have F3 : Hid (Fr (fun c => W.heap.size ≤ c) W w3) := Lib.hid (F2.out.trans (Fr.of_grown _ g3))
  clear g3 C3 F2 S2
  go_wp2_with fail
  refine (C4.out _ S3.out).mono ?_
  rintro e w4 ⟨rfl, s4, f4⟩
  have S4 := Lib.hid s4
  have F4 : Hid (Fr (fun c => W.heap.size ≤ c) W w4) := Lib.hid (F3.out.trans (f4.weaken (fun c q => q.2)))
  clear s4 f4 C4 F3 S3
  go_wp2_with fail
  refine (C5.out _ S4.out).mono ?_
  rintro e w5 ⟨vi, rfl, r5, s5, f5, o5, ow⟩
  have R5 := Lib.hid (And.intro r5.1 (And.intro o5 ow))
  have HK : Hid (W.heap.size ≤ w4.heap.size) := Lib.hid F4.out.2.2.1
  have F5 : Hid (Fr (fun c => W.heap.size ≤ c) W w5) := Lib.hid (F4.out.trans (f5.weaken (fun c q => q.2)))
  obtain ⟨ai, ci, rfl, _⟩ := r5.1
  clear r5 s5 f5 o5 ow C5 F4 S4
  go_wp2_with fail
  go_ret2
  exact ⟨_, rfl, R5.out.1, R5.out.2.1, own_weaken R5.out.2.2 HK.out, fr_new F5.out⟩
/-- an operator run on a row of our own; the result may be appended to -/
theorem run18o (W : World) (b : Nat) (L : List Pl.Ob) (k : Nat) (hk : k = L.length) (hA : RowV W (.slice (some ⟨b, 0, none⟩) k k) L) (hall : ∀ o ∈ L, Pl.mayO o) (hlen : L.length ≤ 200) (NM : ByteArray) (n : Int) (hn : Pl.opNum (rangedText Try.f31) NM = n) (e0 : Int) (R : List Pl.Ob) (hR : Pl.doR L n = (e0, R)) :
    Calls Try.prog 11 #[.slice (some ⟨b, 0, none⟩) k k, .string NM] W fun e w' => ∃ vi, e = .returned (.tuple #[vi, .int .i64 e0]) ∧ RowV w' vi R ∧ OwnForm vi R.length ∧ w'.ownsRow W.heap.size 24 6 vi R.length (Pl.flat R) ∧ Fr (fun _ => False) W w' := by
  have := run_own W _ L hA hall hlen NM n hn
  rw [hR] at this
  exact this
end Go.Proofs.Ytfmmomdmemcbbaa
