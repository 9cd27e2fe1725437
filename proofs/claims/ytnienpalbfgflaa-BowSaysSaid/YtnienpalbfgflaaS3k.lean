/- What is read of the arguments reads the same where the old memory is kept; a law's post with no word of the arguments' shape. -/
import Derived.Test.YtnienpalbfgflaaKept
import Derived.ChangeSame
import Derived.OpenShut
import Derived.ReaderExtends
import Derived.ChangeAgain
namespace Go.Proofs.Ytnienpalbfgflaa
set_option linter.unusedVariables false
open Go.ChangeShapes Go.WideShapes Go.ChangeAt Go.RowKit

theorem add_block (a : Addr) (i : Nat) : (a.add i).block = a.block := by
  unfold Addr.add
  split <;> rfl
theorem kept_block {W W' : World} (hk : Kept W W') {b : Nat} (hb : b < W.heap.size) : W'.heap[b]? = W.heap[b]? := hk.1.block hb (fun p f => f.elim)
theorem cell_kept {W W' : World} (hk : Kept W W') {a : Addr} {v : Value} (h : W.cell? a = some v) : W'.cell? a = some v :=
  (World.cell?_of_block (kept_block hk (World.block_lt_of_cell? W a h))).trans h
theorem cells_kept {W W' : World} (hk : Kept W W') {base : Nat} {a : Addr} {n : Nat} {cs : List Value} (h : W.cells? base a n = some cs) : W'.cells? base a n = some cs := by
  unfold World.cells? at h ⊢
  split at h
  · rename_i hc
    rw [if_pos hc]
    exact mapM_grows (fun i y hy => cell_kept hk hy) h
  · cases h

/-- a list of types that is closed: whatever a reading of one of them comes to is of one of them -/
def okType (P : Program) (G : List TypeId) (t : TypeId) : Bool :=
  match P.underlying t with
  | some (.slice e) => decide (0 < P.cellsOf e) && G.contains e
  | some (.pointer e) => G.contains e
  | some (.array _ e) => G.contains e
  | some (.struct fs) => fs.toList.all fun f => G.contains f.type
  | some (.map _ e) => G.contains e
  | _ => true
def okTypes (P : Program) (G : List TypeId) : Bool := G.all (okType P G)
/-- what lies beneath a type -/
def below (P : Program) (t : TypeId) : List TypeId :=
  match P.underlying t with
  | some (.slice e) => [e]
  | some (.pointer e) => [e]
  | some (.array _ e) => [e]
  | some (.struct fs) => fs.toList.map fun f => f.type
  | some (.map _ e) => [e]
  | _ => []
def closeTypes (P : Program) : Nat → List TypeId → List TypeId
  | 0, G => G
  | n + 1, G => closeTypes P n (G ++ (G.flatMap (below P)).filter fun t => !G.contains t)
section
variable {P : Program} {G : List TypeId} {t e : TypeId}
theorem okT (hG : okTypes P G = true) (ht : t ∈ G) : okType P G t = true := List.all_eq_true.1 hG t ht
theorem okT_slice (hG : okTypes P G = true) (ht : t ∈ G) (hu : P.underlying t = some (.slice e)) : 0 < P.cellsOf e ∧ e ∈ G := by
  have h := okT hG ht
  simpa [okType, hu] using h
theorem okT_pointer (hG : okTypes P G = true) (ht : t ∈ G) (hu : P.underlying t = some (.pointer e)) : e ∈ G := by
  have h := okT hG ht
  simpa [okType, hu] using h
theorem okT_array {m : Nat} (hG : okTypes P G = true) (ht : t ∈ G) (hu : P.underlying t = some (.array m e)) : e ∈ G := by
  have h := okT hG ht
  simpa [okType, hu] using h
theorem okT_map {k : TypeId} (hG : okTypes P G = true) (ht : t ∈ G) (hu : P.underlying t = some (.map k e)) : e ∈ G := by
  have h := okT hG ht
  simpa [okType, hu] using h
theorem okT_struct {fs : Array Field} (hG : okTypes P G = true) (ht : t ∈ G) (hu : P.underlying t = some (.struct fs)) : ∀ f ∈ fs.toList, f.type ∈ G := by
  have h := okT hG ht
  simp only [okType, hu, List.all_eq_true] at h
  intro f hf
  simpa using h f hf
end
/-- as mapM_grows, of the members of the list -/
theorem mapM_grows_mem {α β : Type} {f g : α → Option β} : ∀ {l : List α} {ys : List β}, (∀ x ∈ l, ∀ y, f x = some y → g x = some y) → l.mapM f = some ys → l.mapM g = some ys
  | [], ys, _, e => by simpa using e
  | x :: xs, ys, h, e => by
    rw [List.mapM_cons] at e ⊢
    cases hx : f x with
    | none => simp [hx] at e
    | some y =>
      cases hxs : xs.mapM f with
      | none => simp [hx, hxs] at e
      | some zs =>
        rw [h x (by simp) y hx, mapM_grows_mem (fun z hz => h z (List.mem_cons_of_mem _ hz)) hxs]
        simpa [hx, hxs] using e

section
variable {H : Type} {enc : TypeId × Value → H} {P : Program} {W W' : World} {base : Nat} {sp : Nat → Bool} {G : List TypeId}
theorem bind_grows2 {α β : Type} {f g : α → Option β} {o o' : Option α} (ho : ∀ x, o = some x → o' = some x) (h : ∀ x y, f x = some y → g x = some y) {y : β} (e : o.bind f = some y) : o'.bind g = some y := by
  cases o with
  | none => cases e
  | some x => rw [ho x rfl]; exact h x y e
theorem trod_kept (hk : Kept W W') (hG : okTypes P G = true) (hsp : ∀ b, b < W.heap.size → sp b = true) : ∀ (n : Nat) (t : TypeId) (_ : t ∈ G) (cs : List Value) (x : DataW H × List MemPlace),
    DataW.trod enc P W base (fun _ => true) true n t cs = some x → DataW.trod enc P W' base sp true n t cs = some x
  | 0, _, _, _, _, h => by simp [DataW.trod] at h
  | n + 1, t, ht, cs, d, h => by
    have ih := trod_kept hk hG hsp n
    cases hu : P.underlying t with
    | none => simp [DataW.trod, hu] at h
    | some desc =>
      cases desc
      case pointer e =>
        rcases cs with _ | ⟨c, _ | ⟨c', r⟩⟩
        · simp [DataW.trod, hu] at h
        · cases c
          case pointer a =>
            cases a with
            | none => simpa [DataW.trod, hu] using h
            | some a =>
              simp only [DataW.trod, hu] at h ⊢
              exact map_grows (fun x hx => bind_grows2 (fun y hy => cells_kept hk hy) (ih e (okT_pointer hG ht hu)) hx) _ h
          all_goals simp [DataW.trod, hu] at h
        · simp [DataW.trod, hu] at h
      case slice e =>
        rcases cs with _ | ⟨c, _ | ⟨c', r⟩⟩
        · simp [DataW.trod, hu] at h
        · cases c
          case slice a len cap =>
            cases a with
            | none => cases len <;> cases cap <;> simp [DataW.trod, hu] at h ⊢ <;> exact h
            | some a =>
              simp only [DataW.trod, hu] at h ⊢
              split at h
              · rename_i hc
                rw [if_pos hc]
                have el : ∀ (i : Nat) (y : DataW H × List MemPlace), (W.cells? base (a.add (i * P.cellsOf e)) (P.cellsOf e)).bind (DataW.trod enc P W base (fun _ => true) true n e) = some y → (W'.cells? base (a.add (i * P.cellsOf e)) (P.cellsOf e)).bind (DataW.trod enc P W' base sp true n e) = some y := fun i y hy => bind_grows2 (fun z hz => cells_kept hk hz) (ih e (okT_slice hG ht hu).2) hy
                have hlt : ∀ (i : Nat) (y : DataW H × List MemPlace), (W.cells? base (a.add (i * P.cellsOf e)) (P.cellsOf e)).bind (DataW.trod enc P W base (fun _ => true) true n e) = some y → a.block < W.heap.size := fun i y hy => by
                  cases hq : W.cells? base (a.add (i * P.cellsOf e)) (P.cellsOf e) with
                  | none => rw [hq] at hy; cases hy
                  | some c1 =>
                    have := World.cells?_block hq (okT_slice hG ht hu).1
                    rwa [add_block] at this
                cases h1 : (List.range len).mapM (fun i => (W.cells? base (a.add (i * P.cellsOf e)) (P.cellsOf e)).bind (DataW.trod enc P W base (fun _ => true) true n e)) with
                | none => rw [h1] at h; cases h
                | some elems =>
                  rw [h1] at h
                  rw [mapM_grows el h1]
                  simp only [Option.bind_some, if_true] at h ⊢
                  by_cases hcl : cap - len = 0
                  · rw [hcl] at h ⊢
                    simpa using h
                  · obtain ⟨k, hk1⟩ : ∃ k, cap - len = k + 1 := ⟨cap - len - 1, by omega⟩
                    rw [hk1] at h ⊢
                    have hb : a.block < W.heap.size := by
                      cases h2 : (List.range (k + 1)).mapM (fun j => (W.cells? base (a.add ((len + j) * P.cellsOf e)) (P.cellsOf e)).bind (DataW.trod enc P W base (fun _ => true) true n e)) with
                      | none => rw [h2] at h; cases h
                      | some rest =>
                        rw [List.range_succ_eq_map, List.mapM_cons] at h2
                        cases h3 : (W.cells? base (a.add ((len + 0) * P.cellsOf e)) (P.cellsOf e)).bind (DataW.trod enc P W base (fun _ => true) true n e) with
                        | none => rw [h3] at h2; cases h2
                        | some y => exact hlt _ _ h3
                    rw [hsp _ hb, if_pos rfl]
                    exact map_grows (fun x hx => mapM_grows (fun j y hy => el (len + j) y hy) hx) _ h
              · cases h
          all_goals simp [DataW.trod, hu] at h
        · simp [DataW.trod, hu] at h
      case array m e =>
        simp only [DataW.trod, hu] at h ⊢
        split at h
        · rename_i hc
          rw [if_pos hc]
          exact map_grows (fun x hx => mapM_grows (fun i y hy => ih e (okT_array hG ht hu) _ y hy) hx) _ h
        · cases h
      case struct fs =>
        simp only [DataW.trod, hu] at h ⊢
        split at h
        · rename_i hc
          rw [if_pos hc]
          exact map_grows (fun x hx => mapM_grows_mem (fun f hf y hy => ih f.type (okT_struct hG ht hu f hf) _ y hy) hx) _ h
        · cases h
      case interface ms =>
        rcases cs with _ | ⟨c, _ | ⟨c', r⟩⟩
        · simp [DataW.trod, hu] at h
        · cases c
          case nilIface => simpa [DataW.trod, hu] using h
          case iface u v =>
            simp only [DataW.trod, hu] at h ⊢
            exact h
          all_goals simp [DataW.trod, hu] at h
        · simp [DataW.trod, hu] at h
      case map k e =>
        rcases cs with _ | ⟨c, _ | ⟨c', r⟩⟩
        · simp [DataW.trod, hu] at h
        · cases c
          case map b =>
            cases b with
            | none => simpa [DataW.trod, hu] using h
            | some b =>
              simp only [DataW.trod, hu] at h ⊢
              cases hb : W.heap[b]? with
              | none => simp [hb] at h
              | some o =>
                have hb' : W'.heap[b]? = some o := (kept_block hk (Array.getElem?_eq_some_iff.1 hb).1).trans hb
                cases o
                case map es clock =>
                  simp only [hb, hb'] at h ⊢
                  split at h
                  · rename_i hc
                    rw [if_pos hc]
                    refine bind_grows2 (fun x hx => mapM_grows (fun z y hy => ?_) hx) (fun x y hy => hy) h
                    cases hkx : keyOf P k z.key with
                    | none => simp [hkx] at hy
                    | some key =>
                      simp only [hkx, Option.bind_some] at hy ⊢
                      split at hy
                      · rename_i hf
                        rw [if_pos hf]
                        exact map_grows (fun q hq => ih e (okT_map hG ht hu) _ q hq) _ hy
                      · cases hy
                  · cases h
                all_goals simp [hb] at h
          all_goals simp [DataW.trod, hu] at h
        · simp [DataW.trod, hu] at h
      case chan dir e =>
        rcases cs with _ | ⟨c, _ | ⟨c', r⟩⟩
        · simp [DataW.trod, hu] at h
        · cases c
          case chan r => cases r <;> simp [DataW.trod, hu] at h ⊢ <;> exact h
          all_goals simp [DataW.trod, hu] at h
        · simp [DataW.trod, hu] at h
      case unsafePointer =>
        rcases cs with _ | ⟨c, _ | ⟨c', r⟩⟩
        · simp [DataW.trod, hu] at h
        · cases c
          case pointer a => cases a <;> simp [DataW.trod, hu] at h ⊢ <;> exact h
          all_goals simp [DataW.trod, hu] at h
        · simp [DataW.trod, hu] at h
      all_goals
        rcases cs with _ | ⟨c, _ | ⟨c', r⟩⟩
        · simp [DataW.trod, hu] at h
        · cases c <;> simp [DataW.trod, hu] at h ⊢ <;> exact h
        · simp [DataW.trod, hu] at h
theorem trodAll_kept (hk : Kept W W') (hG : okTypes P G = true) (hsp : ∀ b, b < W.heap.size → sp b = true) : ∀ {ts : List TypeId} {vs : List Value} {ds : List (DataW H)} {ps : List MemPlace}, (∀ t ∈ ts, t ∈ G) →
    DataW.TrodAll enc P W base (fun _ => true) true ts vs ds ps → DataW.TrodAll enc P W' base sp true ts vs ds ps
  | [], _, _, _, _, h => by
    obtain ⟨rfl, rfl, rfl⟩ := trodAll_nil h
    exact trodAll_mk0
  | t :: ts, _, _, _, hts, h => by
    obtain ⟨v, vs1, d, ds1, a, b, rfl, rfl, rfl, ⟨f, h1⟩, h2⟩ := trodAll_cons h
    exact ⟨a, b, ⟨f, trod_kept hk hG hsp f _ (hts t (by simp)) _ _ h1⟩, trodAll_kept hk hG hsp (fun u hu => hts u (List.mem_cons_of_mem _ hu)) h2, rfl⟩
end

/-- the post of a law that answers true, whatever its arguments, where the old memory is kept -/
theorem post_of_law {H : Type} {enc : TypeId × Value → H} {P : Program} {f : Func} {s : ChangeSpec} {apart fresh handsOn again : Bool} {W W' : World} {args : Array Value} {v : Value} {ds gs : List (DataW H)} {before : List MemPlace} {G : List TypeId}
    (hG : okTypes P G = true) (hPG : f.params.toList.all (fun t => G.contains t) = true)
    (hW : DataW.Whole enc P f.params.toList s.vars apart W args.toList ds gs before)
    (hvs : s.vars = []) (hav : (s.fn H (ds ++ gs)).args = ds) (hvv : (s.fn H (ds ++ gs)).vars = [])
    (hres : ∀ (b : Nat) (sp : Nat → Bool) (hd : Bool), DataW.TrodAll enc P W' b sp hd f.resultTypes.toList (v.resultList f.resultTypes.size) (s.fn H (ds ++ gs)).results [])
    (hk : Kept W W')
    (hok : ∀ (j : Nat) (t : TypeId) (r : Value), f.resultTypes[j]? = some t → (v.resultList f.resultTypes.size)[j]? = some r → Value.okWide P W' .any 0 t r) :
    s.post enc P f apart fresh handsOn again W args v W' := by
  obtain ⟨p, q, hA, hV, hpq, hnf, hnd⟩ := id hW
  have hgq : gs = [] ∧ q = [] := by
    rw [hvs] at hV
    cases gs with
    | nil => exact ⟨rfl, hV⟩
    | cons g r => exact hV.elim
  obtain ⟨rfl, rfl⟩ := hgq
  rw [List.append_nil] at hpq
  subst hpq
  have hargs : ∀ sp : Nat → Bool, (∀ b, b < W.heap.size → sp b = true) → DataW.TrodAll enc P W' 0 sp true f.params.toList args.toList (s.fn H (ds ++ [])).args before := fun sp hsp => by
    rw [hav]
    exact trodAll_kept hk hG hsp (fun t ht => by simpa using List.all_eq_true.1 hPG t ht) hA
  have hvars : ∀ sp : Nat → Bool, DataW.TrodVars enc P W' sp s.vars (s.fn H (ds ++ [])).vars [] := fun sp => by
    rw [hvs, hvv]
    exact rfl
  have hlt := fun p hp => hW.lt p hp
  refine ⟨ds, [], before, [], before, [], hW, hres _ _ _, hargs _ (fun b hb => by simpa using hb), hvars _, World.keptBut_mono (fun p hp => hp.elim) hk.1, fun _ => ?_⟩
  refine ⟨hok, _, _, ([] ++ before) ++ [], ⟨[] ++ before, [], trodAll_append (hargs _ (fun _ _ => rfl)) (hres _ _ _), hvars _, rfl, ?_, ?_⟩, ?_⟩
  · intro b off hp
    have hb : MemPlace.cell b off ∈ before := by simpa using hp
    rw [hk.2.1 _ (show b < W.heap.size from hlt _ hb)]
    exact hnf b off hb
  · intro ha
    simpa using hnd ha
  · intro p hp _
    simpa using hp

/-- a list of witnesses -/
theorem list_of {α : Type} {p : Nat → α → Prop} : ∀ (n : Nat), (∀ i, i < n → ∃ c, p i c) → ∃ l : List α, l.length = n ∧ ∀ i c, l[i]? = some c → p i c
  | 0, _ => ⟨[], rfl, fun i c h => by simp at h⟩
  | n + 1, h => by
    obtain ⟨l, hl, hp⟩ := list_of n (fun i hi => h i (by omega))
    obtain ⟨c, hc⟩ := h n (by omega)
    refine ⟨l ++ [c], by simp [hl], fun i d hd => ?_⟩
    rcases Nat.lt_or_ge i n with hi | hi
    · rw [List.getElem?_append_left (by omega)] at hd
      exact hp i d hd
    · rw [List.getElem?_append_right (by omega), hl] at hd
      have : i - n = 0 := by
        rcases Nat.eq_zero_or_pos (i - n) with h0 | h0
        · exact h0
        · rw [List.getElem?_eq_none (by simp; omega)] at hd; cases hd
      rw [this] at hd
      obtain rfl : i = n := by omega
      simp at hd
      rw [← hd]
      exact hc

/-- a slice, by the cells of its elements; each element reads as one of its type -/
def Els {H : Type} (enc : TypeId × Value → H) (P : Program) (e : TypeId) (W : World) (v : Value) (els : List (List Value)) : Prop :=
  ∃ ao cap, v = .slice ao els.length cap ∧ els.length ≤ cap ∧ els.length ≤ maxLen ∧ (∀ c ∈ els, c.length = P.cellsOf e ∧ ∃ fuel y, DataW.trod enc P W 0 (fun _ => true) true fuel e c = some y) ∧
    (els = [] ∨ ∃ g o, ao = some ⟨g, o, none⟩ ∧ g < W.heap.size ∧ ∀ i c, els[i]? = some c → ∀ j u, c[j]? = some u → W.cell? ⟨g, o + i * P.cellsOf e + j, none⟩ = some u)
theorem trod_els {H : Type} {enc : TypeId × Value → H} {P : Program} {W : World} {t e : TypeId} {v : Value} {fuel : Nat} {x : DataW H × List MemPlace} (ht : P.underlying t = some (.slice e)) (hc : 0 < P.cellsOf e)
    (hd : DataW.trod enc P W 0 (fun _ => true) true fuel t [v] = some x) : ∃ els, Els enc P e W v els := by
  rcases DataW.trod_slice ht hd with ⟨h, _⟩ | ⟨a, len, cap, elems, rest, n, _, h, _, _, hl, hm, hlen, hel, _⟩
  · injection h with h
    exact ⟨[], none, 0, h, by simp, by simp, by simp, .inl rfl⟩
  · injection h with h
    have each : ∀ i, i < len → ∃ c, W.cells? 0 (a.add (i * P.cellsOf e)) (P.cellsOf e) = some c ∧ ∃ fuel y, DataW.trod enc P W 0 (fun _ => true) true fuel e c = some y := by
      intro i hi
      have h1 := hel i hi
      rw [List.getElem?_eq_getElem (by omega), Option.bind_eq_some_iff] at h1
      obtain ⟨c, h2, h3⟩ := h1
      exact ⟨c, h2, n, _, h3⟩
    obtain ⟨els, hels, hp⟩ := list_of len each
    refine ⟨els, some a, cap, by rw [h, hels], by omega, by omega, ?_, ?_⟩
    · intro c hcm
      obtain ⟨i, hi⟩ := List.getElem?_of_mem hcm
      obtain ⟨h2, h3⟩ := hp i c hi
      exact ⟨(World.cells?_some h2).2.1, h3⟩
    · rcases Nat.eq_zero_or_pos len with h0 | h0
      · exact .inl (List.eq_nil_of_length_eq_zero (by omega))
      · obtain ⟨c0, hc0⟩ : ∃ c, els[0]? = some c := ⟨_, List.getElem?_eq_getElem (by omega)⟩
        have h2 := (hp 0 c0 hc0).1
        obtain ⟨_, hl0, hcell⟩ := World.cells?_some h2
        have g0 := hcell 0 hc
        rw [List.getElem?_eq_getElem (by omega)] at g0
        obtain ⟨b, off, spot⟩ := a
        have hs : spot = none := by simpa [Addr.add] using World.cell?_spot g0
        subst hs
        have hlt : b < W.heap.size := by
          have := World.cells?_block h2 hc
          rwa [add_block] at this
        refine .inr ⟨b, off, rfl, hlt, fun i c hi j u hu => ?_⟩
        obtain ⟨_, hl1, hcell⟩ := World.cells?_some (hp i c hi).1
        have hj : j < P.cellsOf e := by
          have := (List.getElem?_eq_some_iff.1 hu).1
          omega
        have := hcell j hj
        rw [hu, add_plain, add_plain] at this
        exact this
theorem open_els {H : Type} {enc : TypeId × Value → H} {P : Program} {W : World} {r : Reach} {b0 : Nat} {t e : TypeId} {v : Value} {d : DataW H} {ps : List MemPlace} (ht : P.underlying t = some (.slice e)) (hc : 0 < P.cellsOf e) (hval : Value.okWide P W r b0 t v)
    (hd : DataW.Trod enc P W 0 (fun _ => true) true t v d ps) : ∃ els, Els enc P e W v els := by
  obtain ⟨a, l, c, rfl⟩ := okWide_slice ht hval
  obtain ⟨fuel, hf⟩ := hd
  exact trod_els ht hc (by simpa [Value.cells] using hf)
/-- the slice's elements by what they are -/
theorem Els.rows {H : Type} {enc : TypeId × Value → H} {P : Program} {e : TypeId} {W : World} {v : Value} {els : List (List Value)} (h : Els enc P e W v els) {α : Type} (f : α → List Value) (hf : ∀ c fuel y, c.length = P.cellsOf e → DataW.trod enc P W 0 (fun _ => true) true fuel e c = some y → ∃ q : α, c = f q) :
    ∃ l : List α, els = l.map f := by
  obtain ⟨ao, cap, -, -, -, h1, -⟩ := h
  induction els with
  | nil => exact ⟨[], rfl⟩
  | cons c r ih =>
    obtain ⟨l, hl⟩ := ih (fun c hc => h1 c (List.mem_cons_of_mem _ hc))
    obtain ⟨hc1, fuel, y, hy⟩ := h1 c (by simp)
    obtain ⟨q, hq⟩ := hf c fuel y hc1 hy
    exact ⟨q :: l, by rw [List.map_cons, ← hl, hq]⟩
end Go.Proofs.Ytnienpalbfgflaa
