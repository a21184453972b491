/- A map from whole numbers to whole numbers as a set: what the machine's operations do to it. -/
import Derived.Maps.RangeWalk
import Derived.Maps.OwnSet
import Derived.Maps.OwnOps
import Derived.Maps.Views
import Derived.WalkKit
import Derived.Deep.Draws
set_option linter.unusedVariables false
set_option linter.unusedSimpArgs false
namespace Go.Proofs.YtnknoaolbjofiaaDoor.Cl
open Go.RowKit Go.Maps Go.WideMaps

/-- What is asked of a program's types: kt is int, mt a map of these. -/
structure IntMap (P : Program) (kt mt : TypeId) : Prop where
  hk : P.underlying kt = some (.int .i64)
  hm : P.underlying mt = some (.map kt kt)
  hz : ∀ w, (zeroValue kt).run P w = .ok (.int .i64 0) w

def wfI (x : Int) : Prop := (Lit.int .i64 x).wf = true

/-- Block b is a map whose keys are just S. -/
def IsSet (P : Program) (kt : TypeId) (w : World) (b : Nat) (S : List Int) : Prop :=
  ∃ (D : DataW Unit) (n : Nat), w.ownsMap P kt (plainElem P kt) b n D ∧ n ≤ S.length ∧ Maps.size D = S.length ∧ ∀ x, wfI x → Maps.has D (.int .i64 x) = S.contains x

section
variable {P : Program} {kt mt : TypeId} {w w1 : World} {b : Nat} {S : List Int}

theorem IntMap.keyed (M : IntMap P kt mt) : Keyed P kt := int_keyed M.hk

theorem IsSet.made (w : World) : IsSet P kt (w.alloc (.map #[] 0)) w.heap.size [] :=
  ⟨.map [], 0, World.ownsMap_made _ _ _ _, Nat.le_refl _, rfl, fun _ _ => rfl⟩

theorem IsSet.lt (h : IsSet P kt w b S) : b < w.heap.size := by
  obtain ⟨D, n, ho, _⟩ := h
  exact ho.lt
theorem IsSet.block (h : IsSet P kt w b S) : ∃ es clock, w.heap[b]? = some (.map es clock) := by
  obtain ⟨D, n, ⟨es, clock, hb, _⟩, _⟩ := h
  exact ⟨es, clock, hb⟩
theorem IsSet.at_ (h : IsSet P kt w b S) (he : w1.heap[b]? = w.heap[b]?) : IsSet P kt w1 b S := by
  obtain ⟨D, n, ⟨es, clock, hb, F, hs, hD⟩, r⟩ := h
  exact ⟨D, n, ⟨es, clock, he.trans hb, F, hs, hD⟩, r⟩
theorem IsSet.kept {row : Option Nat} (h : IsSet P kt w b S) (hg : w.grownBy w1 row) (hne : some b ≠ row) : IsSet P kt w1 b S := by
  obtain ⟨D, n, ho, r⟩ := h
  exact ⟨D, n, ho.kept hg hne, r⟩
theorem IsSet.alloc (h : IsSet P kt w b S) (o : Obj) : IsSet P kt (w.alloc o) b S := h.kept (World.grownBy_alloc w o none) (by simp)
theorem IsSet.drew (h : IsSet P kt w b S) : IsSet P kt w.drew b S := h
theorem IsSet.drewN (h : IsSet P kt w b S) (n : Nat) : IsSet P kt (w.drewN n) b S := h.at_ rfl

/-- '_, ok := m[x]'. -/
theorem IsSet.look (M : IntMap P kt mt) (h : IsSet P kt w b S) {x : Int} (hx : wfI x) : ∃ c : Int, (Instr.lookup mt (.map (some b)) (.int .i64 x) true).run P w = .ok (.tuple #[.int .i64 c, .bool (S.contains x)]) w := by
  obtain ⟨D, n, ho, hn, hs, hh⟩ := h
  obtain ⟨v, ps, hrun, hv⟩ := ho.look_ok M.keyed M.hm (M.hz w) (plainElem_int M.hk (by decide)) (keyOf_int_mk M.hk hx)
  obtain ⟨c, rfl, _, _⟩ := plainElem_int_inv M.hk hv
  exact ⟨c, by rw [hrun, hh x hx]⟩

/-- 'len(m)'. -/
theorem IsSet.len (M : IntMap P kt mt) (h : IsSet P kt w b S) (ty : TypeId) : (Builtin.len_ #[mt] ty #[.map (some b)]).run P w = .ok (.int .i64 (S.length : Int)) w := by
  obtain ⟨D, n, ho, hn, hs, hh⟩ := h
  rw [ho.len M.hm ty, hs]

theorem key_ne {x y : Int} (h : x ≠ y) : (Lit.int .i64 x) ≠ Lit.int .i64 y := fun e => h (by injection e)

/-- 'm[x] = c', x new. -/
theorem IsSet.store (M : IntMap P kt mt) (h : IsSet P kt w b S) {x c : Int} (hx : wfI x) (hc : wfI c) (hnew : S.contains x = false) (hl : S.length < 9223372036854775807) :
    ∃ w1, (Instr.mapUpdate mt (.map (some b)) (.int .i64 x) (.int .i64 c)).run P w = .ok () w1 ∧ IsSet P kt w1 b (x :: S) ∧ w.mapTurned w1 b := by
  obtain ⟨D, n, ho, hn, hs, hh⟩ := h
  obtain ⟨w1, hrun, ho1, hg⟩ := ho.store M.keyed M.hm (by unfold maxLen; omega) (keyOf_int_mk M.hk hx) (plainElem_int M.hk hc)
  refine ⟨w1, hrun, ⟨_, _, ho1, by simp only [List.length_cons]; omega, ?_, fun y hy => ?_⟩, hg⟩
  · have ht : Tidy D := by
      obtain ⟨es, he, hp, _⟩ := ho.entries M.keyed
      exact ⟨es, he, hp⟩
    rw [size_put ht, hh x hx, hnew]
    simp [hs]
  · have him : IsMap D := by
      obtain ⟨es, he, _⟩ := ho.entries M.keyed
      exact ⟨es, he⟩
    by_cases e : y = x
    · subst e
      rw [has_put_same him (by simp [WideAt.IsKeyLit])]
      simp
    · rw [has_put_other (key_ne e), hh y hy]
      simp [e]

/-- A range over the map, on its way: those in 'left' are still to come. -/
def Going (P : Program) (kt : TypeId) (w : World) (b r : Nat) (S left : List Int) (cnt : Nat) : Prop :=
  ∃ (D : DataW Unit) (n : Nat) (f : Lit → Bool), w.ranges P kt (plainElem P kt) b r n D f cnt ∧ n ≤ S.length ∧ Maps.size D = S.length ∧ (∀ x, wfI x → Maps.has D (.int .i64 x) = S.contains x) ∧ (∀ x, wfI x → f (.int .i64 x) = left.contains x) ∧ left.Nodup ∧ (∀ x ∈ left, wfI x) ∧ (∀ x ∈ left, x ∈ S)

theorem Going.set {r cnt : Nat} {left : List Int} (h : Going P kt w b r S left cnt) : IsSet P kt w b S := by
  obtain ⟨D, n, f, hr, h1, h2, h3, _⟩ := h
  exact ⟨D, n, hr.owns, h1, h2, h3⟩
theorem Going.ne {r cnt : Nat} {left : List Int} (h : Going P kt w b r S left cnt) : r ≠ b := by
  obtain ⟨D, n, f, hr, _⟩ := h
  exact hr.ne
theorem Going.lt {r cnt : Nat} {left : List Int} (h : Going P kt w b r S left cnt) : r < w.heap.size := by
  obtain ⟨D, n, f, hr, _⟩ := h
  exact hr.lt
theorem Going.left_eq {r cnt : Nat} {left : List Int} (h : Going P kt w b r S left cnt) : w.rangeLeft b r = cnt := by
  obtain ⟨D, n, f, hr, _⟩ := h
  exact hr.left_eq
theorem Going.kept {r cnt : Nat} {left : List Int} {row : Option Nat} (h : Going P kt w b r S left cnt) (hg : w.grownBy w1 row) (hb : some b ≠ row) (hr' : some r ≠ row) : Going P kt w1 b r S left cnt := by
  obtain ⟨D, n, f, hr, rest⟩ := h
  exact ⟨D, n, f, hr.kept hg hb hr', rest⟩
theorem Going.alloc {r cnt : Nat} {left : List Int} (h : Going P kt w b r S left cnt) (o : Obj) : Going P kt (w.alloc o) b r S left cnt := h.kept (World.grownBy_alloc w o none) (by simp) (by simp)

section
variable {ops : Array Oper} {rest : List Oper} {o : Oper} {a : Act} {Q : Exit → Act → World → Prop}

/-- 'range m' begins. -/
theorem set_range (M : IntMap P kt mt) (hg : o.guard = none) (m : Operand) (hop : o.op = Op.range mt m) (hm : a.eval m = .map (some b)) (h : IsSet P kt w b S) (hnd : S.Nodup) (hwf : ∀ x ∈ S, wfI x)
    (hK : ∀ w' cnt, Going P kt w' b w.heap.size S S cnt → w.grownBy w' none → w'.heap.size = w.heap.size + 1 → wpList P ops Q rest (a.put o.dst (.pointer (some ⟨w.heap.size, 0, none⟩))) w') :
    wpList P ops Q (o :: rest) a w := by
  obtain ⟨D, n, ho, hn, hs, hh⟩ := h
  refine wpList_range_own w hg m mt hop kt kt M.keyed M.hm _ b n D hm ho ?_
  intro w' hr hg' hsz
  exact hK w' _ ⟨D, n, _, hr, hn, hs, hh, hh, hnd, hwf, fun _ hx => hx⟩ hg' hsz

/-- Its step. -/
theorem set_next (M : IntMap P kt mt) (hg : o.guard = none) (it : Operand) (hop : o.op = Op.next it false) {r cnt : Nat} {left : List Int} (hit : a.eval it = .pointer (some ⟨r, 0, none⟩)) (h : Going P kt w b r S left cnt)
    (hDone : left = [] → wpList P ops Q rest (a.put o.dst (.tuple #[.bool false])) w)
    (hMore : ∀ (x c : Int) (w' : World) (cnt' : Nat), x ∈ left → wfI x → Going P kt w' b r S (left.erase x) cnt' → cnt' < cnt → w.grownBy w' (some r) → w'.heap.size = w.heap.size →
      (Instr.entry (.pointer (some ⟨r, 0, none⟩))).run P w' = .ok (.tuple #[.int .i64 x, .int .i64 c]) w' → wpList P ops Q rest (a.put o.dst (.tuple #[.bool true, .int .i64 x, .int .i64 c])) w') :
    wpList P ops Q (o :: rest) a w := by
  obtain ⟨D, n, f, hr, hn, hs, hh, hf, hnd, hwf, hsub⟩ := h
  refine wpList_next_ranges_ii w hg it hop kt kt .i64 .i64 M.keyed M.hk M.hk b r n D f cnt hit hr ?_ ?_
  · intro _ h0
    refine hDone (List.eq_nil_iff_forall_not_mem.2 fun x hx => ?_)
    have := hf x (hwf x hx)
    rw [h0] at this
    simp [hx] at this
  · intro x c w' cnt' hx hc hfx _ hr' hlt hg' hsz hen
    have hxl : x ∈ left := by
      have := hf x hx
      rw [hfx] at this
      simpa using this.symm
    refine hMore x c w' cnt' hxl hx ⟨D, n, _, hr', hn, hs, hh, fun y hy => ?_, hnd.erase x, fun y hy => hwf y (List.mem_of_mem_erase hy), fun y hy => hsub y (List.mem_of_mem_erase hy)⟩ hlt hg' hsz hen
    by_cases e : y = x
    · subst e
      have : (Lit.int .i64 y).sameKey (.int .i64 y) = true := by simp [Lit.sameKey]
      simp only [this]
      have hn' : y ∉ left.erase y := fun h => by
        have := (List.Nodup.mem_erase_iff hnd).1 h
        exact this.1 rfl
      simp [hn']
    · have : (Lit.int .i64 y).sameKey (.int .i64 x) = false := sameKey_ne (key_ne e)
      simp only [this, Bool.not_false, Bool.and_true, hf y hy]
      rw [Bool.eq_iff_iff]
      simp only [List.contains_iff_mem]
      exact (List.mem_erase_of_ne e).symm

/-- 'delete(m, x)' right behind the step. -/
theorem set_delete (M : IntMap P kt mt) (hg : o.guard = none) (m x : Operand) (hop : o.op = Op.call { callee := Callee.builtin Builtin.delete, args := #[m, x], argTypes := #[mt, kt] }) {k : Int} (hS : IsSet P kt w b S) (hnd : S.Nodup) (hk : wfI k) (hmem : k ∈ S)
    (hm : a.eval m = .map (some b)) (hx : a.eval x = .int .i64 k)
    (hK : ∀ w', IsSet P kt w' b (S.erase k) → w.mapTurned w' b → wpList P ops Q rest (a.put o.dst (.tuple #[])) w') :
    wpList P ops Q (o :: rest) a w := by
  obtain ⟨D, n, ho, hn, hs, hh⟩ := hS
  refine wpList_delete_own w hg m x mt kt hop kt M.keyed M.hm _ b n D hm ho _ _ hx (keyOf_int_mk M.hk hk) ?_
  intro w' ho' ht
  have htd : Tidy D := by
    obtain ⟨es, he, hp, _⟩ := ho.entries M.keyed
    exact ⟨es, he, hp⟩
  have hsz : Maps.size (D.del (.int .i64 k)) + 1 = S.length := by
    have := size_del (k := .int .i64 k) htd
    rw [hh k hk] at this
    simp [hmem] at this
    omega
  have hle : (S.erase k).length = S.length - 1 := List.length_erase_of_mem hmem
  refine hK w' ⟨D.del (.int .i64 k), Maps.size (D.del (.int .i64 k)), ?_, by omega, by omega, fun y hy => ?_⟩ ht
  · obtain ⟨es, clock, hb, F, _, hD⟩ := ho'
    refine ⟨es, clock, hb, F, ?_, hD⟩
    rw [hD]
    simp [Maps.size, length_sorted]
  · by_cases e : y = k
    · subst e
      rw [has_del_same]
      have hn' : y ∉ S.erase y := fun h => by
        have := (List.Nodup.mem_erase_iff hnd).1 h
        exact this.1 rfl
      simp [hn']
    · rw [has_del_other (key_ne e), hh y hy, Bool.eq_iff_iff]
      simp only [List.contains_iff_mem]
      exact (List.mem_erase_of_ne e).symm
end
end
end Go.Proofs.YtnknoaolbjofiaaDoor.Cl
