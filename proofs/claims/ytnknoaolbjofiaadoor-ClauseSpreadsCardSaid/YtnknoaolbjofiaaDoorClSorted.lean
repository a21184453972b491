/- clause.sorted at ints, by 'variable': the row holds the same numbers, by their variables. -/
import Derived.Test.YtnknoaolbjofiaaDoorClRun
import Derived.Test.YtnknoaolbjofiaaDoorShelf
import Derived.Test.YtnknoaolbjofiaaDoorWMore
import Derived.Deep.QuietTactic
import Derived.BigQuiet
import Derived.Sort.OwnSortedInts
set_option linter.unusedVariables false
set_option linter.unusedSimpArgs false
namespace Go.Proofs.YtnknoaolbjofiaaDoor.Cl
open Go.RowKit Go.Maps Go.Shelf Go.Lib Go.Sort Go.Proofs.YtnknoaolbjofiaaDoorW.PrintWords Go.Proofs.YtnknoaolbjofiaaDoorW.PrintLast Go.Proofs.YtnknoaolbjofiaaDoorW.PrintMore
attribute [local go_sem] max2_int min2_int max_two min_two max_three min_three max_four min_four

def vr (x : Int) : Int := mx x (wrap64 (-x))
theorem variable_any (x : Int) (w : World) : Calls Tryd.prog 35 #[.int .i64 x] w fun e w' => e = .returned (.int .i64 (vr x)) ∧ w' = w := by
  unfold vr
  go_enter Tryd.func35, Tryd.ntmps35
  go_wp2
  all_goals
    go_ret
    exact ⟨by simp only [mx] <;> first | (rw [if_pos (by assumption)]; rfl) | (rw [if_neg (by omega)]; rfl), rfl⟩

/-- How two literals are held against each other. -/
def cf (x y : Int) : Int := Lib.compareInt (vr x) (vr y)
set_option maxHeartbeats 1000000 in
theorem closure (x y : Int) (W : World) (B : Nat) (hB : W.cell? ⟨B, 0, none⟩ = some (.func (.func 35) #[] #[])) : Calls Tryd.prog 52 #[.int .i64 x, .int .i64 y, .pointer (some ⟨B, 0, none⟩)] W fun e w' => e = .returned (.int .i64 (cf x y)) ∧ ∃ q, w' = W.drewN q := by
  have hcon := Tryd.cmp_Compare_int (vr x) (vr y)
  show Calls _ _ _ _ fun e w' => e = .returned (.int .i64 (Lib.compareInt (vr x) (vr y))) ∧ _
  generalize Lib.compareInt (vr x) (vr y) = r at hcon ⊢
  have HCON := Lib.hid hcon
  clear hcon
  go_enter Tryd.func52, Tryd.ntmps52
  go_wp2
  go_quiet ((first
    | (go_at_call 35; exact Calls.quiet_of_same (variable_any _ _))
    | (go_at_call 53; exact Calls.quiet_of_same (HCON.out _))))
  go_wp2
  go_ret
  exact ⟨rfl, nq, rfl⟩

theorem vr_eq {x : Int} (h1 : -1048576 ≤ x) (h2 : x ≤ 1048576) : vr x = (x.natAbs : Int) := by
  have hw : wrap64 (-x) = -x := by unfold wrap64; omega
  unfold vr mx
  rw [hw]
  split <;> omega
theorem lt_cf (x y : Int) : ltOf cf x y = decide (vr x < vr y) := by
  unfold ltOf cf Lib.compareInt
  by_cases h1 : vr x < vr y
  · simp [h1]
  · by_cases h2 : vr y < vr x <;> simp [h1, h2]
theorem swo_cf : SWO (ltOf cf) where
  irrefl x := by rw [lt_cf]; simp
  trans x y z h1 h2 := by rw [lt_cf] at *; simp at *; omega
  ntrans x y z h1 h2 := by rw [lt_cf] at *; simp at *; omega

/-- What the sort leaves is the list by its variables. -/
theorem sorted_is {xs : List Int} {d' : Array Int} (ha : Apart xs) (hb : ∀ x ∈ xs, -1048576 ≤ x ∧ x ≤ 1048576) (hp : PermIn 0 xs.toArray.size xs.toArray d') (hs : SortedIn (ltOf cf) 0 xs.toArray.size d') : d'.toList = isort xs := by
  have hsz : d'.size = xs.length := by simpa using hp.1
  have hperm : d'.toList.Perm xs := by
    have h := hp.2.2
    simp only [Array.toList_extract, List.extract_eq_take_drop, List.drop_zero, Nat.sub_zero, List.size_toArray] at h
    rwa [List.take_of_length_le (by simp; omega), List.take_of_length_le (by simp)] at h
  have hap : Apart d'.toList := (List.Perm.pairwise_iff (fun h => Ne.symm h) hperm).2 ha
  refine up_unique _ _ ?_ (up_isort xs ha) fun x => by rw [mem_isort, hperm.mem_iff]
  refine List.pairwise_iff_getElem.2 fun i j hi hj hij => ?_
  have hi' : i < d'.size := by simpa using hi
  have hj' : j < d'.size := by simpa using hj
  have h1 := hs i j (Nat.zero_le _) hij (by simpa [← hsz] using hj')
  rw [lt_cf, getElem!_pos d' i hi', getElem!_pos d' j hj'] at h1
  have m1 := hb _ (hperm.mem_iff.1 (List.getElem_mem hi))
  have m2 := hb _ (hperm.mem_iff.1 (List.getElem_mem hj))
  have e1 : d'.toList[i] = d'[i] := by simp
  have e2 : d'.toList[j] = d'[j] := by simp
  rw [e1] at m1
  rw [e2] at m2
  rw [vr_eq m1.1 m1.2, vr_eq m2.1 m2.2] at h1
  have h2 := (List.pairwise_iff_getElem.1 hap) i j hi hj hij
  rw [e1, e2] at h2 ⊢
  simp at h1
  omega

set_option maxHeartbeats 1000000 in
theorem sorted_none (p : Option Addr) (cap : Nat) (W : World) :
    Calls Tryd.prog 34 #[.slice p 0 cap, .func (.func 35) #[] #[]] W fun e w' => e = .returned (.slice p 0 cap) ∧ W.grownBy w' none := by
  have hcon := fun fv w => Tryd.slices_SortFunc_none (α := Int) p cap fv w
  have HCON := Lib.hid hcon
  clear hcon
  go_enter Tryd.func34, Tryd.ntmps34
  go_wp2_with (go_at_call 51; refine (HCON.out _ _).mono ?_; rintro e w' ⟨rfl, rfl⟩)
  go_ret
  exact ⟨rfl, World.grownBy_alloc _ _ _⟩

set_option maxHeartbeats 2000000 in
theorem sorted_some {W : World} {base g cap : Nat} {cur : Array Value} {xs : List Int} (hbase : base ≤ g) (hb : W.heap[g]? = some (.cells cur 3 (0, 0))) (h1 : xs.length ≤ cap) (h2 : cap ≤ maxLen) (h3 : cur.size = cap * 1) (ht : cur.toList.take xs.length = xs.map (Value.int .i64))
    (ha : Apart xs) (hlit : Lits xs) (hl : xs.length < 4611686018427387904) :
    Calls Tryd.prog 34 #[.slice (some ⟨g, 0, none⟩) xs.length cap, .func (.func 35) #[] #[]] W fun e w' =>
      e = .returned (.slice (some ⟨g, 0, none⟩) xs.length cap) ∧ w'.ownsRow base 3 1 (.slice (some ⟨g, 0, none⟩) xs.length cap) xs.length ((isort xs).map (Value.int .i64)) ∧ W.grownBy w' (some g) := by
  have hglt := lt_of_block hb
  have hb1 : (W.alloc (.cells #[.func (.func 35) #[] #[]] 31)).heap[g]? = some (.cells cur 3 (0, 0)) := by
    rw [Go.RowKit.Below.heap_alloc _ _ _ hglt]; exact hb
  have hcell : (W.alloc (.cells #[.func (.func 35) #[] #[]] 31)).cell? ⟨W.heap.size, 0, none⟩ = some (.func (.func 35) #[] #[]) := by
    have : (W.alloc (.cells #[.func (.func 35) #[] #[]] 31)).heap[W.heap.size]? = some (.cells #[.func (.func 35) #[] #[]] 31 (0, 0)) := by
      show (W.heap.push _)[W.heap.size]? = _
      simp
    exact cell_of_one this
  have eg : ∀ args w, (callFunc 52 args).run Tryd.prog w = .ok (.enter 52 args) w := enters_of Tryd.func52 (by kernel_rfl) rfl
  have hcmp : CmpLays1 Tryd.prog 52 #[.pointer (some ⟨W.heap.size, 0, none⟩)] (Value.int .i64) cf g 0 xs.toArray.size (W.alloc (.cells #[.func (.func 35) #[] #[]] 31)) :=
    fun m os dk _ x y => (closure x y _ W.heap.size ((grownBy_sortedI dk).cell hcell (fun e => by injection e; simp at *; omega))).mono fun _ _ ⟨he, q, hq⟩ => ⟨he, q, #[], by rw [hq, grow_empty]; rfl⟩
  have hcon := Tryd.slices_SortFunc (Value.int .i64) (fun _ => rfl) cf swo_cf 52 #[.pointer (some ⟨W.heap.size, 0, none⟩)] g 0 cap xs.toArray (W.alloc (.cells #[.func (.func 35) #[] #[]] 31)) eg hcmp (holds_of_blockI hb1 ht) (by simp; omega) (by simpa using hl)
  have hend := fun d' n os (hp : PermIn 0 xs.toArray.size xs.toArray d') (hs : SortedIn (ltOf cf) 0 xs.toArray.size d') =>
    And.intro (ownsRow_sortedI (w := W.alloc (.cells #[.func (.func 35) #[] #[]] 31)) (n := n) (os := os) (ss := xs) (ts := d'.toList) (by simpa using hp.1) hbase hb1 h1 h2 h3)
      ((World.grownBy_alloc W (.cells #[.func (.func 35) #[] #[]] 31) (some g)).trans (grownBy_sortedI (g := g) (n := n) (os := os) d'))
  have hend2 := fun d' (hp : PermIn 0 xs.toArray.size xs.toArray d') (hs : SortedIn (ltOf cf) 0 xs.toArray.size d') => sorted_is ha (fun x hx => ⟨(hlit x hx).1, (hlit x hx).2.1⟩) hp hs
  have HEND := Lib.hid hend
  have HEND2 := Lib.hid hend2
  have HCON := Lib.hid hcon
  clear hcon hcmp hend hend2 hb hb1 hcell ha hlit ht
  go_enter Tryd.func34, Tryd.ntmps34
  go_wp2_with (go_at_call 51; refine (HCON.out).mono ?_; rintro e w' ⟨rfl, d', n, os, hp, hs, rfl⟩; have HP := Aside0.mk hp; have HS := Aside0.mk hs; clear hp hs)
  go_ret
  have h5 := HEND.out d' n os HP.out HS.out
  refine ⟨rfl, ?_, h5.2⟩
  rw [← HEND2.out d' HP.out HS.out]
  exact h5.1

/-- A row of the call's own, by its variables. -/
theorem sorted_calls {W : World} {base : Nat} {v : Value} {xs : List Int} (hown : W.ownsRow base 3 1 v xs.length (xs.map (Value.int .i64))) (ha : Apart xs) (hlit : Lits xs) (hl : xs.length < 4611686018427387904) :
    Calls Tryd.prog 34 #[v, .func (.func 35) #[] #[]] W fun e w' =>
      e = .returned v ∧ w'.ownsRow base 3 1 v xs.length ((isort xs).map (Value.int .i64)) ∧ W.grownBy w' v.ownBlock := by
  rcases hown.2 with ⟨rfl, h0⟩ | ⟨g, cap, cur, rfl, hbase, hb, h1, h2, h3, h4⟩
  · obtain rfl : xs = [] := List.eq_nil_of_length_eq_zero h0
    exact (sorted_none none 0 W).mono fun _ w' ⟨he, hg⟩ => ⟨he, ⟨rfl, .inl ⟨rfl, rfl⟩⟩, hg⟩
  · exact (sorted_some hbase hb h1 h2 h3 (by rwa [Nat.mul_one] at h4) ha hlit hl).mono fun _ w' h => h
end Go.Proofs.YtnknoaolbjofiaaDoor.Cl
