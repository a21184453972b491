/- A map from whole numbers to rows of whole numbers: what it holds at each key, through the machine's operations. -/
import Derived.Test.YtnknoaolbjofiaaDoorClMaps
import Derived.Maps.GroupsBeside
set_option linter.unusedVariables false
set_option linter.unusedSimpArgs false
namespace Go.Proofs.YtnknoaolbjofiaaDoor.Cl
open Go.RowKit Go.Maps Go.WideMaps Go.WideElems Go.ChangeMaps Go.MapKept Go.ChangeShapes

structure GroupMap (P : Program) (kt st gt : TypeId) : Prop where
  hk : P.underlying kt = some (.int .i64)
  hm : P.underlying gt = some (.map kt st)
  hz : ∀ w, (zeroValue st).run P w = .ok (.slice none 0 0) w

theorem GroupMap.keyed {P : Program} {kt st gt : TypeId} (M : GroupMap P kt st gt) : Keyed P kt := int_keyed M.hk

/-- What a row reads as. -/
def RowD (d : DataW Unit) (zs : List Int) : Prop := (d = .nil ∧ zs = []) ∨ d = .slice (lits .i64 zs) []
theorem lits_inj {xs ys : List Int} (h : (lits .i64 xs : List (DataW Unit)) = lits .i64 ys) : xs = ys := by
  have : ∀ (xs ys : List Int), (lits .i64 xs : List (DataW Unit)) = lits .i64 ys → xs = ys := by
    intro xs
    induction xs with
    | nil => intro ys h; cases ys with
      | nil => rfl
      | cons y ys => simp [lits] at h
    | cons x xs ih => intro ys h; cases ys with
      | nil => simp [lits] at h
      | cons y ys =>
        simp [lits] at h
        rw [h.1, ih ys (by simp [lits, h.2])]
  exact this xs ys h
theorem RowD.uniq {d : DataW Unit} {xs ys : List Int} (h : RowD d xs) (h' : RowD d ys) : xs = ys := by
  rcases h with ⟨rfl, rfl⟩ | rfl
  · rcases h' with ⟨_, rfl⟩ | h'
    · rfl
    · cases h'
  · rcases h' with ⟨h', _⟩ | h'
    · cases h'
    · injection h' with h'
      exact lits_inj h'
theorem rowD_of {w : World} {base : Nat} {e : TypeId} {v : Value} {zs : List Int} (h : w.ownsInts base e .i64 v zs) : RowD (rowDatum .i64 v zs) zs := by
  rcases h.datum (H := Unit) with h | h
  · exact .inl h
  · exact .inr h

/-- Block b is a map that holds at each key x just G x; its rows lie from base on. -/
def HasRows (P : Program) (kt : TypeId) (w : World) (base b n : Nat) (G : Int → List Int) : Prop :=
  ∃ D : DataW Unit, w.ownsGroups P kt base kt .i64 b n D ∧ Maps.IsMap D ∧ ∀ x, wfI x → RowD (D.atKey (.int .i64 x) .nil) (G x)

section
variable {P : Program} {kt st gt : TypeId} {w w1 : World} {base b n : Nat} {G : Int → List Int}

theorem HasRows.made (w : World) (kt : TypeId) {base : Nat} (hb : w.heap.size < base) : HasRows P kt (w.alloc (.map #[] 0)) base w.heap.size 0 (fun _ => []) :=
  ⟨.map [], ⟨#[], 0, (MapKept.heap_alloc w _).1, ⟨by simp, stamped_empty 0, by simp⟩, Nat.le_refl _, rfl, hb, by simp, by simp⟩, Maps.isMap_empty, fun _ _ => .inl ⟨rfl, rfl⟩⟩

theorem HasRows.lt (h : HasRows P kt w base b n G) : b < w.heap.size := by
  obtain ⟨D, ⟨es, clock, hb, _⟩, _⟩ := h
  exact (Array.getElem?_eq_some_iff.1 hb).1
theorem HasRows.block (h : HasRows P kt w base b n G) : ∃ es clock, w.heap[b]? = some (.map es clock) := by
  obtain ⟨D, ⟨es, clock, hb, _⟩, _⟩ := h
  exact ⟨es, clock, hb⟩
theorem rowsOff {D : DataW Unit} (h : w.ownsGroups P kt base kt .i64 b n D) {row : Option Nat} (hr : ∀ j, row = some j → j < base ∨ ∀ c t f, w.heap[j]? ≠ some (.cells c t f)) : ∀ es clock, w.heap[b]? = some (.map es clock) → ∀ x ∈ es.toList, x.val.ownBlock = none ∨ x.val.ownBlock ≠ row := fun es clock hb x hx => by
  obtain ⟨es', clock', hb', F, _⟩ := h
  obtain ⟨rfl, rfl⟩ : es' = es ∧ clock' = clock := by rw [hb'] at hb; simpa using hb
  cases hx' : x.val.ownBlock with
  | none => exact Or.inl rfl
  | some g =>
    refine Or.inr (fun e1 => ?_)
    obtain ⟨y, hy⟩ := F.reads x hx
    obtain ⟨z, hz, _⟩ := rd_val hy
    obtain ⟨zs, hoi, _⟩ := rowElem_inv hz
    have hlt := (hoi.1.lt g hx').1
    rcases hr g e1.symm with h1 | h1
    · omega
    · rcases hoi.1.2 with ⟨hv, _⟩ | ⟨g', cap, cur, hv, _, hh, _⟩
      · rw [hv] at hx'
        simp [Value.ownBlock] at hx'
      · rw [hv] at hx'
        have : g' = g := by simpa [Value.ownBlock] using hx'
        subst this
        exact h1 _ _ _ hh
theorem HasRows.kept {row : Option Nat} (h : HasRows P kt w base b n G) (hg : w.grownBy w1 row) (hb' : some b ≠ row) (hr : ∀ j, row = some j → j < base ∨ ∀ c t f, w.heap[j]? ≠ some (.cells c t f)) : HasRows P kt w1 base b n G := by
  obtain ⟨D, ho, r⟩ := h
  exact ⟨D, ho.kept hg hb' (rowsOff ho hr), r⟩
theorem HasRows.alloc (h : HasRows P kt w base b n G) (o : Obj) : HasRows P kt (w.alloc o) base b n G := h.kept (World.grownBy_alloc w o none) (by simp) (by simp)
theorem HasRows.drew (h : HasRows P kt w base b n G) : HasRows P kt w.drew base b n G := h.kept (row := none) ⟨rfl, rfl, rfl, Nat.le_refl _, fun _ _ _ => rfl⟩ (by simp) (by simp)
theorem HasRows.drewN (h : HasRows P kt w base b n G) (m : Nat) : HasRows P kt (w.drewN m) base b n G := h.kept (row := none) ⟨rfl, rfl, rfl, Nat.le_refl _, fun _ _ _ => rfl⟩ (by simp) (by simp)

/-- 'm[x]'. -/
theorem HasRows.look (M : GroupMap P kt st gt) (h : HasRows P kt w base b n G) (hn : n < maxLen) {x : Int} (hx : wfI x) :
    ∃ v, (Instr.lookup gt (.map (some b)) (.int .i64 x) false).run P w = .ok v w ∧ w.ownsInts base kt .i64 v (G x) ∧ (G x).length ≤ n ∧
      ∀ (w1 : World) (v' : Value) (zs' : List Int), w.grownBy w1 v.ownBlock → w1.ownsInts base kt .i64 v' zs' → zs'.length ≤ n + 1 → (v'.ownBlock = v.ownBlock ∨ ∃ g, v'.ownBlock = some g ∧ w.heap.size ≤ g) →
        ∃ w2, (Instr.mapUpdate gt (.map (some b)) (.int .i64 x) v').run P w1 = .ok () w2 ∧ HasRows P kt w2 base b (n + 1) (fun y => if y = x then zs' else G y) ∧ w1.grownBy w2 (some b) := by
  obtain ⟨D, ho, him, hG⟩ := h
  obtain ⟨v, zs, hrun, hat, hoi, hl, hback⟩ := ho.at M.keyed M.hm (M.hz w) hn (keyOf_int_mk M.hk hx)
  have hzs : zs = G x := by
    have h1 := hG x hx
    rw [hat] at h1
    exact (rowD_of hoi).uniq h1
  subst hzs
  refine ⟨v, hrun, hoi, hl, fun w1 v' zs' hg hoi' hl' hloc => ?_⟩
  obtain ⟨w2, hrun2, ho2, hg2⟩ := hback w1 v' zs' hg hoi' hl' hloc
  refine ⟨w2, hrun2, ⟨_, ho2, him.put _ _, fun y hy => ?_⟩, hg2⟩
  by_cases e : y = x
  · subst e
    rw [Maps.atKey_put_same him (by simp [WideAt.IsKeyLit])]
    simp only [if_pos]
    exact rowD_of hoi'
  · rw [Maps.atKey_put_other (key_ne e)]
    simp only [if_neg e]
    exact hG y hy
/-- The look-up reads the map's block alone. -/
theorem HasRows.look_same (M : GroupMap P kt st gt) (h : HasRows P kt w base b n G) {x : Int} (hx : wfI x) {v : Value} (hrun : (Instr.lookup gt (.map (some b)) (.int .i64 x) false).run P w = .ok v w) {W : World} (hW : W.heap[b]? = w.heap[b]?) :
    (Instr.lookup gt (.map (some b)) (.int .i64 x) false).run P W = .ok v W := by
  obtain ⟨D, ⟨es, clock, hb, F, _⟩, _⟩ := h
  have hkey := keyOf_int_mk M.hk hx
  rcases Maps.fit_look false M.keyed M.hm (M.hz w) hb F hkey with ⟨hr, hno, _⟩ | ⟨e0, y, hm, hk, hr, _⟩
  · rw [hrun] at hr
    rcases Maps.fit_look false M.keyed M.hm (M.hz W) (hW.trans hb) F hkey with ⟨hr', _, _⟩ | ⟨e1, _, hm', hk', _⟩
    · rw [hr']
      simp only [Result.ok.injEq, and_true] at hr
      rw [hr]
    · exact absurd hk' (hno e1 hm')
  · rw [hrun] at hr
    rcases Maps.fit_look false M.keyed M.hm (M.hz W) (hW.trans hb) F hkey with ⟨_, hno, _⟩ | ⟨e1, _, hm', hk', hr', _⟩
    · exact absurd hk (hno e0 hm)
    · have : e0 = e1 := entry_eq_of_key (List.pairwise_map.1 F.stamped.2.2) hm hm' (hk.trans hk'.symm)
      subst this
      rw [hr']
      simp only [Result.ok.injEq, and_true] at hr
      rw [hr]
theorem HasRows.ext {G' : Int → List Int} (h : HasRows P kt w base b n G) (e : ∀ x, G x = G' x) : HasRows P kt w base b n G' := by
  obtain rfl : G = G' := funext e
  exact h
end
end Go.Proofs.YtnknoaolbjofiaaDoor.Cl
