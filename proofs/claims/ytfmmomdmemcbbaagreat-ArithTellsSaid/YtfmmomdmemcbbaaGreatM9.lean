/- A law's post where new memory is of unknown shape: what was  -/
import Derived.ChangeSame
import Derived.OpenShut
import Derived.ReaderExtends
import Derived.ChangeAgain
import Derived.Test.YtfmmomdmemcbbaaGreatM2
import Derived.Test.YtfmmomdmemcbbaaGreatM7
set_option maxRecDepth 100000
namespace Go.Proofs.YtfmmomdmemcbbaaGreat
set_option linter.unusedVariables false
open Go.ChangeShapes Go.WideShapes Go.ChangeAt Go.RowKit
end Go.Proofs.YtfmmomdmemcbbaaGreat
namespace Go.Proofs.YtfmmomdmemcbbaaGreat
set_option linter.unusedVariables false
open Go.ChangeShapes Go.WideShapes Go.ChangeAt Go.RowKit
theorem add_block (a : Addr) (i : Nat) : (a.add i).block = a.block := by
  unfold Addr.add
  split <;> rfl
theorem kept_block {W W' : World} (hk : Kept W W') {b : Nat} (hb : b < W.heap.size) : W'.heap[b]? = W.heap[b]? := hk.1.block hb (fun p f => f.elim)
theorem cell_kept {W W' : World} (hk : Kept W W') {a : Addr} {v : Value} (h : W.cell? a = some v) : W'.cell? a = some v :=
  (World.cell?_of_block (kept_block hk (World.block_lt_of_cell? W a h))).trans h
theorem cells_kept {W W' : World} (hk : Kept W W') {base : Nat} {a : Addr} {n : Nat} {cs : List Value} (h : W.cells? base a n = some cs) : W'.cells? base a n = some cs := by
  unfold World.cells? at h ⊢
  split at h
  · rename_i hc
    rw [if_pos hc]
    exact mapM_grows (fun i y hy => cell_kept hk hy) h
  · cases h
def okType (P : Program) (G : List TypeId) (t : TypeId) : Bool :=
  match P.underlying t with
  | some (.slice e) => decide (0 < P.cellsOf e) && G.contains e
  | some (.pointer e) => G.contains e
  | some (.array _ e) => G.contains e
  | some (.struct fs) => fs.toList.all fun f => G.contains f.type
  | some (.map _ e) => G.contains e
  | _ => true
def okTypes (P : Program) (G : List TypeId) : Bool := G.all (okType P G)
def below (P : Program) (t : TypeId) : List TypeId :=
  match P.underlying t with
  | some (.slice e) => [e]
  | some (.pointer e) => [e]
  | some (.array _ e) => [e]
  | some (.struct fs) => fs.toList.map fun f => f.type
  | some (.map _ e) => [e]
  | _ => []
def closeTypes (P : Program) : Nat → List TypeId → List TypeId
  | 0, G => G
  | n + 1, G => closeTypes P n (G ++ (G.flatMap (below P)).filter fun t => !G.contains t)
section
variable {P : Program} {G : List TypeId} {t e : TypeId}
theorem okT (hG : okTypes P G = true) (ht : t ∈ G) : okType P G t = true := List.all_eq_true.1 hG t ht
theorem okT_slice (hG : okTypes P G = true) (ht : t ∈ G) (hu : P.underlying t = some (.slice e)) : 0 < P.cellsOf e ∧ e ∈ G := by
  have h := okT hG ht
  simpa [okType, hu] using h
theorem okT_pointer (hG : okTypes P G = true) (ht : t ∈ G) (hu : P.underlying t = some (.pointer e)) : e ∈ G := by
  have h := okT hG ht
  simpa [okType, hu] using h
theorem okT_array {m : Nat} (hG : okTypes P G = true) (ht : t ∈ G) (hu : P.underlying t = some (.array m e)) : e ∈ G := by
  have h := okT hG ht
  simpa [okType, hu] using h
theorem okT_map {k : TypeId} (hG : okTypes P G = true) (ht : t ∈ G) (hu : P.underlying t = some (.map k e)) : e ∈ G := by
  have h := okT hG ht
  simpa [okType, hu] using h
theorem okT_struct {fs : Array Field} (hG : okTypes P G = true) (ht : t ∈ G) (hu : P.underlying t = some (.struct fs)) : ∀ f ∈ fs.toList, f.type ∈ G := by
  have h := okT hG ht
  simp only [okType, hu, List.all_eq_true] at h
  intro f hf
  simpa using h f hf
end
theorem mapM_grows_mem {α β : Type} {f g : α → Option β} : ∀ {l : List α} {ys : List β}, (∀ x ∈ l, ∀ y, f x = some y → g x = some y) → l.mapM f = some ys → l.mapM g = some ys
  | [], ys, _, e => by simpa using e
  | x :: xs, ys, h, e => by
    rw [List.mapM_cons] at e ⊢
    cases hx : f x with
    | none => simp [hx] at e
    | some y =>
      cases hxs : xs.mapM f with
      | none => simp [hx, hxs] at e
      | some zs =>
        rw [h x (by simp) y hx, mapM_grows_mem (fun z hz => h z (List.mem_cons_of_mem _ hz)) hxs]
        simpa [hx, hxs] using e
section
variable {H : Type} {enc : TypeId × Value → H} {P : Program} {W W' : World} {base : Nat} {sp : Nat → Bool} {G : List TypeId}
theorem bind_grows2 {α β : Type} {f g : α → Option β} {o o' : Option α} (ho : ∀ x, o = some x → o' = some x) (h : ∀ x y, f x = some y → g x = some y) {y : β} (e : o.bind f = some y) : o'.bind g = some y := by
  cases o with
  | none => cases e
  | some x => rw [ho x rfl]; exact h x y e
theorem trod_kept (hk : Kept W W') (hG : okTypes P G = true) (hsp : ∀ b, b < W.heap.size → sp b = true) : ∀ (n : Nat) (t : TypeId) (_ : t ∈ G) (cs : List Value) (x : DataW H × List MemPlace),
    DataW.trod enc P W base (fun _ => true) true n t cs = some x → DataW.trod enc P W' base sp true n t cs = some x
  | 0, _, _, _, _, h => by simp [DataW.trod] at h
  | n + 1, t, ht, cs, d, h => by
    have ih := trod_kept hk hG hsp n
    cases hu : P.underlying t with
    | none => simp [DataW.trod, hu] at h
    | some desc =>
      cases desc
      case pointer e =>
        rcases cs with _ | ⟨c, _ | ⟨c', r⟩⟩
        · simp [DataW.trod, hu] at h
        · cases c
          case pointer a =>
            cases a with
            | none => simpa [DataW.trod, hu] using h
            | some a =>
              simp only [DataW.trod, hu] at h ⊢
              exact map_grows (fun x hx => bind_grows2 (fun y hy => cells_kept hk hy) (ih e (okT_pointer hG ht hu)) hx) _ h
          all_goals simp [DataW.trod, hu] at h
        · simp [DataW.trod, hu] at h
      case slice e =>
        rcases cs with _ | ⟨c, _ | ⟨c', r⟩⟩
        · simp [DataW.trod, hu] at h
        · cases c
          case slice a len cap =>
            cases a with
            | none => cases len <;> cases cap <;> simp [DataW.trod, hu] at h ⊢ <;> exact h
            | some a =>
              simp only [DataW.trod, hu] at h ⊢
              split at h
              · rename_i hc
                rw [if_pos hc]
                have el : ∀ (i : Nat) (y : DataW H × List MemPlace), (W.cells? base (a.add (i * P.cellsOf e)) (P.cellsOf e)).bind (DataW.trod enc P W base (fun _ => true) true n e) = some y → (W'.cells? base (a.add (i * P.cellsOf e)) (P.cellsOf e)).bind (DataW.trod enc P W' base sp true n e) = some y := fun i y hy => bind_grows2 (fun z hz => cells_kept hk hz) (ih e (okT_slice hG ht hu).2) hy
                have hlt : ∀ (i : Nat) (y : DataW H × List MemPlace), (W.cells? base (a.add (i * P.cellsOf e)) (P.cellsOf e)).bind (DataW.trod enc P W base (fun _ => true) true n e) = some y → a.block < W.heap.size := fun i y hy => by
                  cases hq : W.cells? base (a.add (i * P.cellsOf e)) (P.cellsOf e) with
                  | none => rw [hq] at hy; cases hy
                  | some c1 =>
                    have := World.cells?_block hq (okT_slice hG ht hu).1
                    rwa [add_block] at this
                cases h1 : (List.range len).mapM (fun i => (W.cells? base (a.add (i * P.cellsOf e)) (P.cellsOf e)).bind (DataW.trod enc P W base (fun _ => true) true n e)) with
                | none => rw [h1] at h; cases h
                | some elems =>
                  rw [h1] at h
                  rw [mapM_grows el h1]
                  simp only [Option.bind_some, if_true] at h ⊢
                  by_cases hcl : cap - len = 0
                  · rw [hcl] at h ⊢
                    simpa using h
                  · obtain ⟨k, hk1⟩ : ∃ k, cap - len = k + 1 := ⟨cap - len - 1, by omega⟩
                    rw [hk1] at h ⊢
                    have hb : a.block < W.heap.size := by
                      cases h2 : (List.range (k + 1)).mapM (fun j => (W.cells? base (a.add ((len + j) * P.cellsOf e)) (P.cellsOf e)).bind (DataW.trod enc P W base (fun _ => true) true n e)) with
                      | none => rw [h2] at h; cases h
                      | some rest =>
                        rw [List.range_succ_eq_map, List.mapM_cons] at h2
                        cases h3 : (W.cells? base (a.add ((len + 0) * P.cellsOf e)) (P.cellsOf e)).bind (DataW.trod enc P W base (fun _ => true) true n e) with
                        | none => rw [h3] at h2; cases h2
                        | some y => exact hlt _ _ h3
                    rw [hsp _ hb, if_pos rfl]
                    exact map_grows (fun x hx => mapM_grows (fun j y hy => el (len + j) y hy) hx) _ h
              · cases h
          all_goals simp [DataW.trod, hu] at h
        · simp [DataW.trod, hu] at h
      case array m e =>
        simp only [DataW.trod, hu] at h ⊢
        split at h
        · rename_i hc
          rw [if_pos hc]
          exact map_grows (fun x hx => mapM_grows (fun i y hy => ih e (okT_array hG ht hu) _ y hy) hx) _ h
        · cases h
      case struct fs =>
        simp only [DataW.trod, hu] at h ⊢
        split at h
        · rename_i hc
          rw [if_pos hc]
          exact map_grows (fun x hx => mapM_grows_mem (fun f hf y hy => ih f.type (okT_struct hG ht hu f hf) _ y hy) hx) _ h
        · cases h
      case interface ms =>
        rcases cs with _ | ⟨c, _ | ⟨c', r⟩⟩
        · simp [DataW.trod, hu] at h
        · cases c
          case nilIface => simpa [DataW.trod, hu] using h
          case iface u v =>
            simp only [DataW.trod, hu] at h ⊢
            exact h
          all_goals simp [DataW.trod, hu] at h
        · simp [DataW.trod, hu] at h
      case map k e =>
        rcases cs with _ | ⟨c, _ | ⟨c', r⟩⟩
        · simp [DataW.trod, hu] at h
        · cases c
          case map b =>
            cases b with
            | none => simpa [DataW.trod, hu] using h
            | some b =>
              simp only [DataW.trod, hu] at h ⊢
              cases hb : W.heap[b]? with
              | none => simp [hb] at h
              | some o =>
                have hb' : W'.heap[b]? = some o := (kept_block hk (Array.getElem?_eq_some_iff.1 hb).1).trans hb
                cases o
                case map es clock =>
                  simp only [hb, hb'] at h ⊢
                  split at h
                  · rename_i hc
                    rw [if_pos hc]
                    refine bind_grows2 (fun x hx => mapM_grows (fun z y hy => ?_) hx) (fun x y hy => hy) h
                    cases hkx : keyOf P k z.key with
                    | none => simp [hkx] at hy
                    | some key =>
                      simp only [hkx, Option.bind_some] at hy ⊢
                      split at hy
                      · rename_i hf
                        rw [if_pos hf]
                        exact map_grows (fun q hq => ih e (okT_map hG ht hu) _ q hq) _ hy
                      · cases hy
                  · cases h
                all_goals simp [hb] at h
          all_goals simp [DataW.trod, hu] at h
        · simp [DataW.trod, hu] at h
      case chan dir e =>
        rcases cs with _ | ⟨c, _ | ⟨c', r⟩⟩
        · simp [DataW.trod, hu] at h
        · cases c
          case chan r => cases r <;> simp [DataW.trod, hu] at h ⊢ <;> exact h
          all_goals simp [DataW.trod, hu] at h
        · simp [DataW.trod, hu] at h
      case unsafePointer =>
        rcases cs with _ | ⟨c, _ | ⟨c', r⟩⟩
        · simp [DataW.trod, hu] at h
        · cases c
          case pointer a => cases a <;> simp [DataW.trod, hu] at h ⊢ <;> exact h
          all_goals simp [DataW.trod, hu] at h
        · simp [DataW.trod, hu] at h
      all_goals
        rcases cs with _ | ⟨c, _ | ⟨c', r⟩⟩
        · simp [DataW.trod, hu] at h
        · cases c <;> simp [DataW.trod, hu] at h ⊢ <;> exact h
        · simp [DataW.trod, hu] at h
theorem trodAll_kept (hk : Kept W W') (hG : okTypes P G = true) (hsp : ∀ b, b < W.heap.size → sp b = true) : ∀ {ts : List TypeId} {vs : List Value} {ds : List (DataW H)} {ps : List MemPlace}, (∀ t ∈ ts, t ∈ G) →
    DataW.TrodAll enc P W base (fun _ => true) true ts vs ds ps → DataW.TrodAll enc P W' base sp true ts vs ds ps
  | [], _, _, _, _, h => by
    obtain ⟨rfl, rfl, rfl⟩ := trodAll_nil h
    exact trodAll_mk0
  | t :: ts, _, _, _, hts, h => by
    obtain ⟨v, vs1, d, ds1, a, b, rfl, rfl, rfl, ⟨f, h1⟩, h2⟩ := trodAll_cons h
    exact ⟨a, b, ⟨f, trod_kept hk hG hsp f _ (hts t (by simp)) _ _ h1⟩, trodAll_kept hk hG hsp (fun u hu => hts u (List.mem_cons_of_mem _ hu)) h2, rfl⟩
end
theorem post_of_law {H : Type} {enc : TypeId × Value → H} {P : Program} {f : Func} {s : ChangeSpec} {apart fresh handsOn again : Bool} {W W' : World} {args : Array Value} {v : Value} {ds gs : List (DataW H)} {before : List MemPlace} {G : List TypeId}
    (hG : okTypes P G = true) (hPG : f.params.toList.all (fun t => G.contains t) = true)
    (hW : DataW.Whole enc P f.params.toList s.vars apart W args.toList ds gs before)
    (hvs : s.vars = []) (hav : (s.fn H (ds ++ gs)).args = ds) (hvv : (s.fn H (ds ++ gs)).vars = [])
    (hres : ∀ (b : Nat) (sp : Nat → Bool) (hd : Bool), DataW.TrodAll enc P W' b sp hd f.resultTypes.toList (v.resultList f.resultTypes.size) (s.fn H (ds ++ gs)).results [])
    (hk : Kept W W')
    (hok : ∀ (j : Nat) (t : TypeId) (r : Value), f.resultTypes[j]? = some t → (v.resultList f.resultTypes.size)[j]? = some r → Value.okWide P W' .any 0 t r) :
    s.post enc P f apart fresh handsOn again W args v W' := by
  obtain ⟨p, q, hA, hV, hpq, hnf, hnd⟩ := id hW
  have hgq : gs = [] ∧ q = [] := by
    rw [hvs] at hV
    cases gs with
    | nil => exact ⟨rfl, hV⟩
    | cons g r => exact hV.elim
  obtain ⟨rfl, rfl⟩ := hgq
  rw [List.append_nil] at hpq
  subst hpq
  have hargs : ∀ sp : Nat → Bool, (∀ b, b < W.heap.size → sp b = true) → DataW.TrodAll enc P W' 0 sp true f.params.toList args.toList (s.fn H (ds ++ [])).args before := fun sp hsp => by
    rw [hav]
    exact trodAll_kept hk hG hsp (fun t ht => by simpa using List.all_eq_true.1 hPG t ht) hA
  have hvars : ∀ sp : Nat → Bool, DataW.TrodVars enc P W' sp s.vars (s.fn H (ds ++ [])).vars [] := fun sp => by
    rw [hvs, hvv]
    exact rfl
  have hlt := fun p hp => hW.lt p hp
  refine ⟨ds, [], before, [], before, [], hW, hres _ _ _, hargs _ (fun b hb => by simpa using hb), hvars _, World.keptBut_mono (fun p hp => hp.elim) hk.1, fun _ => ?_⟩
  refine ⟨hok, _, _, ([] ++ before) ++ [], ⟨[] ++ before, [], trodAll_append (hargs _ (fun _ _ => rfl)) (hres _ _ _), hvars _, rfl, ?_, ?_⟩, ?_⟩
  · intro b off hp
    have hb : MemPlace.cell b off ∈ before := by simpa using hp
    rw [hk.2.1 _ (show b < W.heap.size from hlt _ hb)]
    exact hnf b off hb
  · intro ha
    simpa using hnd ha
  · intro p hp _
    simpa using hp
theorem list_of {α : Type} {p : Nat → α → Prop} : ∀ (n : Nat), (∀ i, i < n → ∃ c, p i c) → ∃ l : List α, l.length = n ∧ ∀ i c, l[i]? = some c → p i c
  | 0, _ => ⟨[], rfl, fun i c h => by simp at h⟩
  | n + 1, h => by
    obtain ⟨l, hl, hp⟩ := list_of n (fun i hi => h i (by omega))
    obtain ⟨c, hc⟩ := h n (by omega)
    refine ⟨l ++ [c], by simp [hl], fun i d hd => ?_⟩
    rcases Nat.lt_or_ge i n with hi | hi
    · rw [List.getElem?_append_left (by omega)] at hd
      exact hp i d hd
    · rw [List.getElem?_append_right (by omega), hl] at hd
      have : i - n = 0 := by
        rcases Nat.eq_zero_or_pos (i - n) with h0 | h0
        · exact h0
        · rw [List.getElem?_eq_none (by simp; omega)] at hd; cases hd
      rw [this] at hd
      obtain rfl : i = n := by omega
      simp at hd
      rw [← hd]
      exact hc
def Els {H : Type} (enc : TypeId × Value → H) (P : Program) (e : TypeId) (W : World) (v : Value) (els : List (List Value)) : Prop :=
  ∃ ao cap, v = .slice ao els.length cap ∧ els.length ≤ cap ∧ els.length ≤ maxLen ∧ (∀ c ∈ els, c.length = P.cellsOf e ∧ ∃ fuel y, DataW.trod enc P W 0 (fun _ => true) true fuel e c = some y) ∧
    (els = [] ∨ ∃ g o, ao = some ⟨g, o, none⟩ ∧ g < W.heap.size ∧ ∀ i c, els[i]? = some c → ∀ j u, c[j]? = some u → W.cell? ⟨g, o + i * P.cellsOf e + j, none⟩ = some u)
theorem trod_els {H : Type} {enc : TypeId × Value → H} {P : Program} {W : World} {t e : TypeId} {v : Value} {fuel : Nat} {x : DataW H × List MemPlace} (ht : P.underlying t = some (.slice e)) (hc : 0 < P.cellsOf e)
    (hd : DataW.trod enc P W 0 (fun _ => true) true fuel t [v] = some x) : ∃ els, Els enc P e W v els := by
  rcases DataW.trod_slice ht hd with ⟨h, _⟩ | ⟨a, len, cap, elems, rest, n, _, h, _, _, hl, hm, hlen, hel, _⟩
  · injection h with h
    exact ⟨[], none, 0, h, by simp, by simp, by simp, .inl rfl⟩
  · injection h with h
    have each : ∀ i, i < len → ∃ c, W.cells? 0 (a.add (i * P.cellsOf e)) (P.cellsOf e) = some c ∧ ∃ fuel y, DataW.trod enc P W 0 (fun _ => true) true fuel e c = some y := by
      intro i hi
      have h1 := hel i hi
      rw [List.getElem?_eq_getElem (by omega), Option.bind_eq_some_iff] at h1
      obtain ⟨c, h2, h3⟩ := h1
      exact ⟨c, h2, n, _, h3⟩
    obtain ⟨els, hels, hp⟩ := list_of len each
    refine ⟨els, some a, cap, by rw [h, hels], by omega, by omega, ?_, ?_⟩
    · intro c hcm
      obtain ⟨i, hi⟩ := List.getElem?_of_mem hcm
      obtain ⟨h2, h3⟩ := hp i c hi
      exact ⟨(World.cells?_some h2).2.1, h3⟩
    · rcases Nat.eq_zero_or_pos len with h0 | h0
      · exact .inl (List.eq_nil_of_length_eq_zero (by omega))
      · obtain ⟨c0, hc0⟩ : ∃ c, els[0]? = some c := ⟨_, List.getElem?_eq_getElem (by omega)⟩
        have h2 := (hp 0 c0 hc0).1
        obtain ⟨_, hl0, hcell⟩ := World.cells?_some h2
        have g0 := hcell 0 hc
        rw [List.getElem?_eq_getElem (by omega)] at g0
        obtain ⟨b, off, spot⟩ := a
        have hs : spot = none := by simpa [Addr.add] using World.cell?_spot g0
        subst hs
        have hlt : b < W.heap.size := by
          have := World.cells?_block h2 hc
          rwa [add_block] at this
        refine .inr ⟨b, off, rfl, hlt, fun i c hi j u hu => ?_⟩
        obtain ⟨_, hl1, hcell⟩ := World.cells?_some (hp i c hi).1
        have hj : j < P.cellsOf e := by
          have := (List.getElem?_eq_some_iff.1 hu).1
          omega
        have := hcell j hj
        rw [hu, add_plain, add_plain] at this
        exact this
theorem open_els {H : Type} {enc : TypeId × Value → H} {P : Program} {W : World} {r : Reach} {b0 : Nat} {t e : TypeId} {v : Value} {d : DataW H} {ps : List MemPlace} (ht : P.underlying t = some (.slice e)) (hc : 0 < P.cellsOf e) (hval : Value.okWide P W r b0 t v)
    (hd : DataW.Trod enc P W 0 (fun _ => true) true t v d ps) : ∃ els, Els enc P e W v els := by
  obtain ⟨a, l, c, rfl⟩ := okWide_slice ht hval
  obtain ⟨fuel, hf⟩ := hd
  exact trod_els ht hc (by simpa [Value.cells] using hf)
theorem Els.rows {H : Type} {enc : TypeId × Value → H} {P : Program} {e : TypeId} {W : World} {v : Value} {els : List (List Value)} (h : Els enc P e W v els) {α : Type} (f : α → List Value) (hf : ∀ c fuel y, c.length = P.cellsOf e → DataW.trod enc P W 0 (fun _ => true) true fuel e c = some y → ∃ q : α, c = f q) :
    ∃ l : List α, els = l.map f := by
  obtain ⟨ao, cap, -, -, -, h1, -⟩ := h
  induction els with
  | nil => exact ⟨[], rfl⟩
  | cons c r ih =>
    obtain ⟨l, hl⟩ := ih (fun c hc => h1 c (List.mem_cons_of_mem _ hc))
    obtain ⟨hc1, fuel, y, hy⟩ := h1 c (by simp)
    obtain ⟨q, hq⟩ := hf c fuel y hc1 hy
    exact ⟨q :: l, by rw [List.map_cons, ← hl, hq]⟩
end Go.Proofs.YtfmmomdmemcbbaaGreat
namespace Go.Proofs.YtfmmomdmemcbbaaGreat
set_option linter.unusedVariables false
open Go.RowKit
def Two (W0 : World) (Pr : Nat → Prop) (p : Nat) (L : List Pl.Ob) (q : Nat) (M : List Pl.Ob) (W : World) : Prop :=
  ∃ v u, StkV W0.heap.size p v L W ∧ StkV W0.heap.size q u M W ∧ W0.heap.size ≤ p ∧ W0.heap.size ≤ q ∧ Kept W0 W ∧ p ≠ q ∧ v.ownBlock ≠ some q ∧ u.ownBlock ≠ some p ∧ (∀ g, v.ownBlock = some g → u.ownBlock ≠ some g) ∧
    ¬ Pr p ∧ ¬ Pr q ∧ (∀ g, v.ownBlock = some g → ¬ Pr g) ∧ (∀ g, u.ownBlock = some g → ¬ Pr g) ∧ ∀ c, Pr c → c < W.heap.size
theorem Two.left {W0 : World} {Pr : Nat → Prop} {p q : Nat} {L M : List Pl.Ob} {W : World} (h : Two W0 Pr p L q M W) :
    ∃ Q : Nat → Prop, Stk W0 Q p L W ∧ (∀ c, Pr c → Q c) ∧ ∀ L' W', Stk W0 Q p L' W' → FrS W0 Q W W' → Two W0 Pr p L' q M W' ∧ FrS W0 Pr W W' := by
  obtain ⟨v, u, h1, h2, h3, h4, h5, h6, h7, h8, h9, h10, h11, h12, h13, h14⟩ := h
  have hu := own_lt h2.2.2.1
  refine ⟨fun c => Pr c ∨ c = q ∨ u.ownBlock = some c, ⟨v, h1, h3, h5, ?_, ?_, ?_⟩, fun c a => .inl a, ?_⟩
  · rintro (a | a | a)
    · exact h10 a
    · exact h6 a
    · exact h8 a
  · rintro g hg (a | a | a)
    · exact h12 g hg a
    · exact h7 (by rw [hg, a])
    · exact h9 g hg a
  · rintro c (a | a | a)
    · exact h14 c a
    · rw [a]; exact h2.2.2.2.2
    · exact hu c a
  · rintro L' W' ⟨v', k1, k3, k5, k10, k12, k14⟩ hF
    have h2' : StkV W0.heap.size q u M W' := h2.fr hF (fun a => a.1 (.inr (.inl rfl))) (fun g hg a => a.1 (.inr (.inr hg)))
    refine ⟨⟨v', u, k1, h2', h3, h4, k5, h6, fun e => k12 q e (.inr (.inl rfl)), h8, fun g a b => k12 g a (.inr (.inr b)), fun a => k10 (.inl a), h11, fun g a b => k12 g a (.inl b), h13, fun c a => k14 c (.inl a)⟩, hF.weaken (fun c a => ⟨fun b => a.1 (.inl b), a.2⟩)⟩
theorem Two.guard {W0 : World} {Pr Q : Nat → Prop} {p q : Nat} {L M : List Pl.Ob} {W W' : World} (h : Two W0 Pr p L q M W) (k : Fr (fun _ => False) W W') (hQ : ∀ c, Q c → Pr c ∨ W.heap.size ≤ c) (hQ2 : ∀ c, Q c → c < W'.heap.size) : Two W0 Q p L q M W' := by
  obtain ⟨v, u, h1, h2, h3, h4, h5, h6, h7, h8, h9, h10, h11, h12, h13, h14⟩ := h
  have hv := own_lt h1.2.2.1
  have hu := own_lt h2.2.2.1
  have hp := h1.2.2.2.2
  have hq := h2.2.2.2.2
  refine ⟨v, u, h1.fr k (fun f => f) (fun _ _ f => f), h2.fr k (fun f => f) (fun _ _ f => f), h3, h4, h5.fr k (fun c f => f.elim), h6, h7, h8, h9, ?_, ?_, ?_, ?_, hQ2⟩
  · intro a
    rcases hQ _ a with b | b
    · exact h10 b
    · omega
  · intro a
    rcases hQ _ a with b | b
    · exact h11 b
    · omega
  · intro g hg a
    rcases hQ _ a with b | b
    · exact h12 g hg b
    · have := hv g hg; omega
  · intro g hg a
    rcases hQ _ a with b | b
    · exact h13 g hg b
    · have := hu g hg; omega
theorem Two.fresh {W0 : World} {Pr : Nat → Prop} {p q : Nat} {L M : List Pl.Ob} {W W' : World} (h : Two W0 Pr p L q M W) (k : Fr (fun _ => False) W W') : Two W0 Pr p L q M W' := by
  obtain ⟨v, u, h1, h2, h3, h4, h5, h6, h7, h8, h9, h10, h11, h12, h13, h14⟩ := h
  exact ⟨v, u, h1.fr k (fun f => f) (fun _ _ f => f), h2.fr k (fun f => f) (fun _ _ f => f), h3, h4, h5.fr k (fun c f => f.elim), h6, h7, h8, h9, h10, h11, h12, h13, fun c a => Nat.lt_of_lt_of_le (h14 c a) k.2.2.1⟩
theorem Two.grown {W0 : World} {Pr : Nat → Prop} {p q : Nat} {L M : List Pl.Ob} {W W' : World} (h : Two W0 Pr p L q M W) (g : Grown W W') : Two W0 Pr p L q M W' := h.fresh (Fr.of_grown _ g)
section
variable {W0 : World} {Pr : Nat → Prop} {p q : Nat} {L M : List Pl.Ob} {W : World} (h : Two W0 Pr p L q M W)
include h
end
theorem RowV.kept0 {W0 W : World} {v : Value} {A : List Pl.Ob} (h : RowV W0 v A) (k : Kept W0 W) : RowV W v A := by
  obtain ⟨ao, cap, rfl, h1⟩ := h
  rcases h1 with rfl | ⟨g, o, rfl, hg, h1⟩
  · exact ⟨ao, cap, rfl, .inl rfl⟩
  · exact ⟨_, cap, rfl, .inr ⟨g, o, rfl, Nat.lt_of_lt_of_le hg k.2.2, fun j u hj => (k.1.cell (b := g) (off := o + j) hg (fun f => f)).trans (h1 j u hj)⟩⟩
theorem cellsOb18 : Tryz.prog.cellsOf 25 = 6 := by kernel_rfl
theorem cellsI18 : Tryz.prog.cellsOf 3 = 1 := by kernel_rfl
theorem cellsB18 : Tryz.prog.cellsOf 4 = 1 := by kernel_rfl
theorem cellsS18 : Tryz.prog.cellsOf 9 = 1 := by kernel_rfl
section
open Go.ChangeShapes Go.WideShapes Go.ChangeAt
variable {H : Type} {enc : TypeId × Value → H} {w : World} {base : Nat} {spare : Nat → Bool} {held : Bool}
theorem cells_obj {fuel : Nat} {c : List Value} {y : DataW H × List MemPlace} (hl : c.length = 6) (hf : DataW.trod enc Tryz.prog w base spare held fuel 25 c = some y) : ∃ o : Pl.Ob, c = Pl.oc o ∧ o.2.2.2.2.2.size ≤ maxLen := by
  match c, hl with
  | [c0, c1, c2, c3, c4, c5], _ =>
    obtain ⟨xs, m, _, hx, _, hlen, hg⟩ := DataW.trod_struct Tryz.underlying25 hf
    match xs, hlen with
    | [y0, y1, y2, y3, y4, y5], _ =>
      obtain ⟨k, e0, rfl, w0⟩ := DataW.trod_int Tryz.underlying3 (hg 0 _ rfl)
      obtain ⟨x, e1, rfl⟩ := DataW.trod_bool Tryz.underlying4 (hg 1 _ rfl)
      obtain ⟨n, e2, rfl, w2⟩ := DataW.trod_int Tryz.underlying3 (hg 2 _ rfl)
      obtain ⟨a, e3, rfl, w3⟩ := DataW.trod_int Tryz.underlying3 (hg 3 _ rfl)
      obtain ⟨l, e4, rfl, w4⟩ := DataW.trod_int Tryz.underlying3 (hg 4 _ rfl)
      obtain ⟨s, e5, rfl, w5⟩ := DataW.trod_string Tryz.underlying9 (hg 5 _ rfl)
      simp [cellsI18, cellsB18, cellsS18] at e0 e1 e2 e3 e4 e5
      subst e0 e1 e2 e3 e4 e5
      exact ⟨(k, x, n, a, l, s), rfl, w5⟩
variable {W : World}
theorem open_objs {r : Reach} {b0 : Nat} {v : Value} {d : DataW H} {ps : List MemPlace} (hval : Value.okWide Tryz.prog W r b0 22 v) (hd : DataW.Trod enc Tryz.prog W 0 (fun _ => true) true 22 v d ps) : ∃ A : List Pl.Ob, RowV W v A ∧ A.length ≤ maxLen := by
  obtain ⟨els, hE⟩ := open_els Tryz.underlying22 (Nat.lt_of_lt_of_eq (by decide : 0 < 6) cellsOb18.symm) hval hd
  obtain ⟨A, rfl⟩ := hE.rows Pl.oc (fun c fuel y hl hy => by
    obtain ⟨o, ho, _⟩ := cells_obj (hl.trans cellsOb18) hy
    exact ⟨o, ho⟩)
  obtain ⟨ao, cap, rfl, _, hm, _, h⟩ := hE
  rw [List.length_map] at hm
  refine ⟨A, ⟨ao, cap, by rw [List.length_map], ?_⟩, hm⟩
  rcases h with h | ⟨g, o, rfl, hg, h⟩
  · exact .inl (List.map_eq_nil_iff.1 h)
  · refine .inr ⟨g, o, rfl, hg, fun j u hu => ?_⟩
    have hj := (List.getElem?_eq_some_iff.1 hu).1
    rw [Pl.flat_len] at hj
    obtain ⟨q, hq⟩ : ∃ q, A[j / 6]? = some q := ⟨_, List.getElem?_eq_getElem (by omega)⟩
    have hr := Pl.flat_get A (j / 6) q hq (j % 6) (by omega)
    rw [show j / 6 * 6 + j % 6 = j from by omega, hu] at hr
    have := h (j / 6) (Pl.oc q) (by rw [List.getElem?_map, hq]; rfl) (j % 6) u hr.symm
    rw [cellsOb18, show o + j / 6 * 6 + j % 6 = o + j from by omega] at this
    exact this
end
end Go.Proofs.YtfmmomdmemcbbaaGreat
