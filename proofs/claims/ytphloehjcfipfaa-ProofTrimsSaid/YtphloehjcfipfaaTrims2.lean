/- Part 2 of 5 of the proof that the statement of the row ProofTrims holds: the texts Xx5, ClSpec, ClMaps, ClGroups, ClHold, ClAskP, ClAsk, one behind the other. -/
import Derived.Maps.RangeWalk
import Derived.Maps.OwnSet
import Derived.Maps.OwnOps
import Derived.Maps.Views
import Derived.WalkKit
import Derived.Deep.Draws
import Derived.Maps.GroupsBeside
import Derived.Test.YtphloehjcfipfaaProg
import Derived.KernelRfl
import Derived.Tactics
import Derived.OneCell
import Derived.Lib.Hide
import Derived.Test.YtphloehjcfipfaaWWords
import Derived.Outline
import Derived.Test.YtphloehjcfipfaaTrims1

section
-- Lines printed by a program of the session's own (wip/pr.py over the kit's print.py); Lean checks them.
namespace Go.Proofs.Ytphloehjcfipfaa.X
open Go.RowKit Go.Proofs.YtphloehjcfipfaaW.PrintWords Go.Proofs.YtphloehjcfipfaaW.PrintLast Go.Proofs.YtphloehjcfipfaaW.PrintMore
attribute [local go_sem] max2_int min2_int max_two min_two max_three min_three max_four min_four   -- for this text's walks alone
set_option linter.unusedVariables false
set_option linter.unusedSimpArgs false

/-! ### backreachref14_Spread: function 55 -/
mutual
def backreachref14_Spread.j0 : Nat → List (List Int) → List Int → Bool → Option (List Int × Bool)
  | 0, _, _, _ => none
  | k + 1, x0, x1, x23 => if x23 = true then (some (([] : List Int), false)) else ((some (([] : List (List Int)) : List (List Int))).bind fun y150 => (if y150.length + x0.length < 5864062014805 then ((some (y150 ++ x0 : List (List Int))).bind fun y153 => (if y153.length < 5864062014805 then ((backreachref14_Most.f k (y153 ++ [x1])).bind fun t159 => (if 0 ≤ (wrap64 (t159 + 1)) then (if (wrap64 (t159 + 1) : Int).toNat ≤ 35184372088832 then (backreachref14_Spread.l0 k x0 x1 t159 (List.replicate (wrap64 (t159 + 1) : Int).toNat 0) 0) else (none)) else (none))) else (none))) else (none)))
def backreachref14_Spread.l0 : Nat → List (List Int) → List Int → Int → List Int → Int → Option (List Int × Bool)
  | 0, _, _, _, _, _ => none
  | k + 1, x0, x1, x6, x7, x8 => if x8 < (x1.length : Int) then (if 0 ≤ x8 then ((backreachref14_Var.f (rd x1 x8)).bind fun t164 => (if 0 ≤ t164 then (if t164 < (x7.length : Int) then (if (rd x7 t164) = 0 then ((backreachref14_sign.f (rd x1 x8)).bind fun t167 => (backreachref14_Spread.l0 k x0 x1 x6 (x7.set (t164 : Int).toNat t167) (wrap64 (x8 + 1)))) else ((backreachref14_sign.f (rd x1 x8)).bind fun t171 => (if (rd x7 t164) = t171 then ((backreachref14_sign.f (rd x1 x8)).bind fun t173 => (backreachref14_Spread.l0 k x0 x1 x6 (x7.set (t164 : Int).toNat t173) (wrap64 (x8 + 1)))) else (some (([] : List Int), false))))) else (none)) else (none))) else (none)) else (backreachref14_Spread.l1 k x0 x6 x7 true)
def backreachref14_Spread.l1 : Nat → List (List Int) → Int → List Int → Bool → Option (List Int × Bool)
  | 0, _, _, _, _ => none
  | k + 1, x0, x6, x7, x10 => if x10 = true then (backreachref14_Spread.l2 k x0 x6 x7 false 0) else (backreachref14_Spread.l3 k x6 x7 ([] : List Int) 1)
def backreachref14_Spread.l2 : Nat → List (List Int) → Int → List Int → Bool → Int → Option (List Int × Bool)
  | 0, _, _, _, _, _ => none
  | k + 1, x0, x6, x7, x10, x11 => if x11 < (x0.length : Int) then (if 0 ≤ x11 then ((backreachref14_left.f k (rd_L1 x0 x11) x7).bind fun t176 => (if (t176.length : Int) = 0 then (some (([] : List Int), false)) else (if (t176.length : Int) = 1 then (if 0 < (t176.length : Int) then ((backreachref14_Var.f (rd t176 0)).bind fun t180 => (if 0 ≤ t180 then (if t180 < (x7.length : Int) then (backreachref14_Spread.j4 k x0 x6 x7 x10 x11 t176 ((rd x7 t180) == 0)) else (none)) else (none))) else (none)) else (backreachref14_Spread.j4 k x0 x6 x7 x10 x11 t176 false)))) else (none)) else (backreachref14_Spread.l1 k x0 x6 x7 x10)
def backreachref14_Spread.j4 : Nat → List (List Int) → Int → List Int → Bool → Int → List Int → Bool → Option (List Int × Bool)
  | 0, _, _, _, _, _, _, _ => none
  | k + 1, x0, x6, x7, x10, x11, x12, x98 => if x98 = true then (if 0 < (x12.length : Int) then ((backreachref14_Var.f (rd x12 0)).bind fun t183 => ((backreachref14_sign.f (rd x12 0)).bind fun t185 => (if 0 ≤ t183 then (if t183 < (x7.length : Int) then (backreachref14_Spread.l2 k x0 x6 (x7.set (t183 : Int).toNat t185) true (wrap64 (x11 + 1))) else (none)) else (none)))) else (none)) else (backreachref14_Spread.l2 k x0 x6 x7 x10 (wrap64 (x11 + 1)))
def backreachref14_Spread.l3 : Nat → Int → List Int → List Int → Int → Option (List Int × Bool)
  | 0, _, _, _, _ => none
  | k + 1, x6, x7, x13, x14 => if x14 ≤ x6 then (if 0 ≤ x14 then (if x14 < (x7.length : Int) then (if (rd x7 x14) = 0 then (backreachref14_Spread.l3 k x6 x7 x13 (wrap64 (x14 + 1))) else (if x13.length < 17592186044416 then (backreachref14_Spread.l3 k x6 x7 (x13 ++ [wrap64 ((rd x7 x14) * x14)]) (wrap64 (x14 + 1))) else (none))) else (none)) else (none)) else (some (x13, true))
end
def backreachref14_Spread.f (k : Nat) (l0 : List (List Int)) (l1 : List Int) : Option (List Int × Bool) := (backreachref14_Right.f k l0).bind fun t145 => (if t145 = true then ((backreachref14_Right.f k (([l1] : List (List Int)))).bind fun t149 => (backreachref14_Spread.j0 k l0 l1 (!t149))) else (backreachref14_Spread.j0 k l0 l1 true))
theorem backreachref14_Spread.mono_l : ∀ k, (∀ y0 y1 y2, LeO (backreachref14_Spread.j0 k y0 y1 y2) (backreachref14_Spread.j0 (k + 1) y0 y1 y2)) ∧ (∀ y0 y1 y2 y3 y4, LeO (backreachref14_Spread.l0 k y0 y1 y2 y3 y4) (backreachref14_Spread.l0 (k + 1) y0 y1 y2 y3 y4)) ∧ (∀ y0 y1 y2 y3, LeO (backreachref14_Spread.l1 k y0 y1 y2 y3) (backreachref14_Spread.l1 (k + 1) y0 y1 y2 y3)) ∧ (∀ y0 y1 y2 y3 y4, LeO (backreachref14_Spread.l2 k y0 y1 y2 y3 y4) (backreachref14_Spread.l2 (k + 1) y0 y1 y2 y3 y4)) ∧ (∀ y0 y1 y2 y3 y4 y5 y6, LeO (backreachref14_Spread.j4 k y0 y1 y2 y3 y4 y5 y6) (backreachref14_Spread.j4 (k + 1) y0 y1 y2 y3 y4 y5 y6)) ∧ (∀ y0 y1 y2 y3, LeO (backreachref14_Spread.l3 k y0 y1 y2 y3) (backreachref14_Spread.l3 (k + 1) y0 y1 y2 y3))
  | 0 => ⟨fun _ _ _ r h => by simp [backreachref14_Spread.j0] at h, fun _ _ _ _ _ r h => by simp [backreachref14_Spread.l0] at h, fun _ _ _ _ r h => by simp [backreachref14_Spread.l1] at h, fun _ _ _ _ _ r h => by simp [backreachref14_Spread.l2] at h, fun _ _ _ _ _ _ _ r h => by simp [backreachref14_Spread.j4] at h, fun _ _ _ _ r h => by simp [backreachref14_Spread.l3] at h⟩
  | k + 1 => by
    obtain ⟨ih0, ih1, ih2, ih3, ih4, ih5⟩ := backreachref14_Spread.mono_l k
    refine ⟨?_, ?_, ?_, ?_, ?_, ?_⟩
    · intro y0 y1 y2
      unfold backreachref14_Spread.j0
      repeat' first
      | (with_reducible exact ih0 _ _ _)
      | (with_reducible exact ih1 _ _ _ _ _)
      | (with_reducible exact ih2 _ _ _ _)
      | (with_reducible exact ih3 _ _ _ _ _)
      | (with_reducible exact ih4 _ _ _ _ _ _ _)
      | (with_reducible exact ih5 _ _ _ _)
      | (with_reducible exact backreachref14_Most.mono _ _)
      | (with_reducible exact backreachref14_Right.mono _ _)
      | (with_reducible exact backreachref14_left.mono _ _ _)
      | (with_reducible exact LeO.refl _)
      | (with_reducible exact LeO.none _)
      | (with_reducible refine LeO.ite ?_ ?_)
      | (with_reducible refine LeO.bind ?_ (fun _ => ?_))
      | exact ih0 _ _ _
      | exact ih1 _ _ _ _ _
      | exact ih2 _ _ _ _
      | exact ih3 _ _ _ _ _
      | exact ih4 _ _ _ _ _ _ _
      | exact ih5 _ _ _ _
      | exact backreachref14_Most.mono _ _
      | exact backreachref14_Right.mono _ _
      | exact backreachref14_left.mono _ _ _
      | exact LeO.none _
      | refine LeO.ite ?_ ?_
      | refine LeO.bind ?_ (fun _ => ?_)
    · intro y0 y1 y2 y3 y4
      unfold backreachref14_Spread.l0
      repeat' first
      | (with_reducible exact ih0 _ _ _)
      | (with_reducible exact ih1 _ _ _ _ _)
      | (with_reducible exact ih2 _ _ _ _)
      | (with_reducible exact ih3 _ _ _ _ _)
      | (with_reducible exact ih4 _ _ _ _ _ _ _)
      | (with_reducible exact ih5 _ _ _ _)
      | (with_reducible exact backreachref14_Most.mono _ _)
      | (with_reducible exact backreachref14_Right.mono _ _)
      | (with_reducible exact backreachref14_left.mono _ _ _)
      | (with_reducible exact LeO.refl _)
      | (with_reducible exact LeO.none _)
      | (with_reducible refine LeO.ite ?_ ?_)
      | (with_reducible refine LeO.bind ?_ (fun _ => ?_))
      | exact ih0 _ _ _
      | exact ih1 _ _ _ _ _
      | exact ih2 _ _ _ _
      | exact ih3 _ _ _ _ _
      | exact ih4 _ _ _ _ _ _ _
      | exact ih5 _ _ _ _
      | exact backreachref14_Most.mono _ _
      | exact backreachref14_Right.mono _ _
      | exact backreachref14_left.mono _ _ _
      | exact LeO.none _
      | refine LeO.ite ?_ ?_
      | refine LeO.bind ?_ (fun _ => ?_)
    · intro y0 y1 y2 y3
      unfold backreachref14_Spread.l1
      repeat' first
      | (with_reducible exact ih0 _ _ _)
      | (with_reducible exact ih1 _ _ _ _ _)
      | (with_reducible exact ih2 _ _ _ _)
      | (with_reducible exact ih3 _ _ _ _ _)
      | (with_reducible exact ih4 _ _ _ _ _ _ _)
      | (with_reducible exact ih5 _ _ _ _)
      | (with_reducible exact backreachref14_Most.mono _ _)
      | (with_reducible exact backreachref14_Right.mono _ _)
      | (with_reducible exact backreachref14_left.mono _ _ _)
      | (with_reducible exact LeO.refl _)
      | (with_reducible exact LeO.none _)
      | (with_reducible refine LeO.ite ?_ ?_)
      | (with_reducible refine LeO.bind ?_ (fun _ => ?_))
      | exact ih0 _ _ _
      | exact ih1 _ _ _ _ _
      | exact ih2 _ _ _ _
      | exact ih3 _ _ _ _ _
      | exact ih4 _ _ _ _ _ _ _
      | exact ih5 _ _ _ _
      | exact backreachref14_Most.mono _ _
      | exact backreachref14_Right.mono _ _
      | exact backreachref14_left.mono _ _ _
      | exact LeO.none _
      | refine LeO.ite ?_ ?_
      | refine LeO.bind ?_ (fun _ => ?_)
    · intro y0 y1 y2 y3 y4
      unfold backreachref14_Spread.l2
      repeat' first
      | (with_reducible exact ih0 _ _ _)
      | (with_reducible exact ih1 _ _ _ _ _)
      | (with_reducible exact ih2 _ _ _ _)
      | (with_reducible exact ih3 _ _ _ _ _)
      | (with_reducible exact ih4 _ _ _ _ _ _ _)
      | (with_reducible exact ih5 _ _ _ _)
      | (with_reducible exact backreachref14_Most.mono _ _)
      | (with_reducible exact backreachref14_Right.mono _ _)
      | (with_reducible exact backreachref14_left.mono _ _ _)
      | (with_reducible exact LeO.refl _)
      | (with_reducible exact LeO.none _)
      | (with_reducible refine LeO.ite ?_ ?_)
      | (with_reducible refine LeO.bind ?_ (fun _ => ?_))
      | exact ih0 _ _ _
      | exact ih1 _ _ _ _ _
      | exact ih2 _ _ _ _
      | exact ih3 _ _ _ _ _
      | exact ih4 _ _ _ _ _ _ _
      | exact ih5 _ _ _ _
      | exact backreachref14_Most.mono _ _
      | exact backreachref14_Right.mono _ _
      | exact backreachref14_left.mono _ _ _
      | exact LeO.none _
      | refine LeO.ite ?_ ?_
      | refine LeO.bind ?_ (fun _ => ?_)
    · intro y0 y1 y2 y3 y4 y5 y6
      unfold backreachref14_Spread.j4
      repeat' first
      | (with_reducible exact ih0 _ _ _)
      | (with_reducible exact ih1 _ _ _ _ _)
      | (with_reducible exact ih2 _ _ _ _)
      | (with_reducible exact ih3 _ _ _ _ _)
      | (with_reducible exact ih4 _ _ _ _ _ _ _)
      | (with_reducible exact ih5 _ _ _ _)
      | (with_reducible exact backreachref14_Most.mono _ _)
      | (with_reducible exact backreachref14_Right.mono _ _)
      | (with_reducible exact backreachref14_left.mono _ _ _)
      | (with_reducible exact LeO.refl _)
      | (with_reducible exact LeO.none _)
      | (with_reducible refine LeO.ite ?_ ?_)
      | (with_reducible refine LeO.bind ?_ (fun _ => ?_))
      | exact ih0 _ _ _
      | exact ih1 _ _ _ _ _
      | exact ih2 _ _ _ _
      | exact ih3 _ _ _ _ _
      | exact ih4 _ _ _ _ _ _ _
      | exact ih5 _ _ _ _
      | exact backreachref14_Most.mono _ _
      | exact backreachref14_Right.mono _ _
      | exact backreachref14_left.mono _ _ _
      | exact LeO.none _
      | refine LeO.ite ?_ ?_
      | refine LeO.bind ?_ (fun _ => ?_)
    · intro y0 y1 y2 y3
      unfold backreachref14_Spread.l3
      repeat' first
      | (with_reducible exact ih0 _ _ _)
      | (with_reducible exact ih1 _ _ _ _ _)
      | (with_reducible exact ih2 _ _ _ _)
      | (with_reducible exact ih3 _ _ _ _ _)
      | (with_reducible exact ih4 _ _ _ _ _ _ _)
      | (with_reducible exact ih5 _ _ _ _)
      | (with_reducible exact backreachref14_Most.mono _ _)
      | (with_reducible exact backreachref14_Right.mono _ _)
      | (with_reducible exact backreachref14_left.mono _ _ _)
      | (with_reducible exact LeO.refl _)
      | (with_reducible exact LeO.none _)
      | (with_reducible refine LeO.ite ?_ ?_)
      | (with_reducible refine LeO.bind ?_ (fun _ => ?_))
      | exact ih0 _ _ _
      | exact ih1 _ _ _ _ _
      | exact ih2 _ _ _ _
      | exact ih3 _ _ _ _ _
      | exact ih4 _ _ _ _ _ _ _
      | exact ih5 _ _ _ _
      | exact backreachref14_Most.mono _ _
      | exact backreachref14_Right.mono _ _
      | exact backreachref14_left.mono _ _ _
      | exact LeO.none _
      | refine LeO.ite ?_ ?_
      | refine LeO.bind ?_ (fun _ => ?_)
theorem backreachref14_Spread.mono : ∀ a0 a1 k, LeO (backreachref14_Spread.f k a0 a1) (backreachref14_Spread.f (k + 1) a0 a1) := by
  intro a0 a1 k
  obtain ⟨ih0, ih1, ih2, ih3, ih4, ih5⟩ := backreachref14_Spread.mono_l k
  unfold backreachref14_Spread.f
  repeat' first
      | (with_reducible exact ih0 _ _ _)
      | (with_reducible exact ih1 _ _ _ _ _)
      | (with_reducible exact ih2 _ _ _ _)
      | (with_reducible exact ih3 _ _ _ _ _)
      | (with_reducible exact ih4 _ _ _ _ _ _ _)
      | (with_reducible exact ih5 _ _ _ _)
      | (with_reducible exact backreachref14_Most.mono _ _)
      | (with_reducible exact backreachref14_Right.mono _ _)
      | (with_reducible exact backreachref14_left.mono _ _ _)
      | (with_reducible exact LeO.refl _)
      | (with_reducible exact LeO.none _)
      | (with_reducible refine LeO.ite ?_ ?_)
      | (with_reducible refine LeO.bind ?_ (fun _ => ?_))
      | exact ih0 _ _ _
      | exact ih1 _ _ _ _ _
      | exact ih2 _ _ _ _
      | exact ih3 _ _ _ _ _
      | exact ih4 _ _ _ _ _ _ _
      | exact ih5 _ _ _ _
      | exact backreachref14_Most.mono _ _
      | exact backreachref14_Right.mono _ _
      | exact backreachref14_left.mono _ _ _
      | exact LeO.none _
      | refine LeO.ite ?_ ?_
      | refine LeO.bind ?_ (fun _ => ?_)
def backreachref14_Spread.T9 : Bool × List (List Nat × List Nat) := (true, [([], []), ([], []), ([0, 1], [0, 1]), ([2], [2]), ([3], [3]), ([4], [4]), ([5], [5]), ([5], [5]), ([6, 7, 5], [5, 6, 7]), ([8, 5], [5, 8]), ([5], [5]), ([5], [5]), ([10, 11, 5], [5, 10, 11]), ([12, 5], [5, 12]), ([13, 5, 5], [5, 13]), ([9, 14, 5], [5, 9, 14]), ([5, 15], [5, 15])])
def backreachref14_Spread.B9 : List Nat := [0, 0, 3, 7, 15, 31, 63, 63, 255, 511, 63, 63, 3135, 7231, 15423, 32767, 65535]
theorem backreachref14_Spread.tab9 : rtab .any (opsOf Try.f55 9) = backreachref14_Spread.T9 := by kernel_rfl
theorem backreachref14_Spread.bits9 : waitsOk backreachref14_Spread.T9.2 backreachref14_Spread.B9 = true := by kernel_rfl
def backreachref14_Spread.T22 : Bool × List (List Nat × List Nat) := (true, [([], []), ([], []), ([1], [1]), ([2], [2]), ([3], [3]), ([], []), ([5], [5]), ([6], [6]), ([7, 4], [7]), ([0, 4, 0, 1, 2, 3, 4, 5, 6, 7, 8], [0, 4]), ([9, 8, 8, 0, 1, 2, 3, 4, 5, 6, 7, 8], [8, 9])])
def backreachref14_Spread.B22 : List Nat := [0, 0, 2, 6, 14, 0, 32, 96, 254, 511, 1023]
theorem backreachref14_Spread.tab22 : rtab .any (opsOf Try.f55 22) = backreachref14_Spread.T22 := by kernel_rfl
theorem backreachref14_Spread.bits22 : waitsOk backreachref14_Spread.T22.2 backreachref14_Spread.B22 = true := by kernel_rfl
/-- A list of one list, as it lies in memory. -/
theorem lit_row {W : World} {b A} {cap : Nat} {c : List Int} (hc : Kd.C (Kd.int .i64) W A c.length c) (hcap : c.length ≤ cap) (hcell : W.cell? ⟨b, 0, none⟩ = some (.slice A c.length cap)) : Kd.C (Kd.slice 3 (Kd.int .i64)) W (some ⟨b, 0, none⟩) ([c] : List (List Int)).length [c] :=
  ⟨rfl, by simp, fun _ => ⟨_, rfl, fun j p hj => by
    have hj0 : j = 0 := by
      have := (List.getElem?_eq_some_iff.1 hj).1
      simpa using this
    subst hj0
    have hp : c = p := by simpa using hj
    subst hp
    refine ⟨[.slice A c.length cap], rfl, ⟨A, cap, rfl, hcap, hc⟩, fun i u hu => ?_⟩
    have hi0 : i = 0 := by
      have := (List.getElem?_eq_some_iff.1 hu).1
      simpa using this
    subst hi0
    have hu : Value.slice A c.length cap = u := by simpa using hu
    rw [hu] at hcell
    simpa [Kd.slice, Addr.add] using hcell⟩⟩
set_option maxHeartbeats 8000000 in
set_option maxRecDepth 100000 in
theorem backreachref14_Spread.calls (k : Nat) (P0_ : Nat → Prop) (A0 : Option Addr) (c0 : Nat) (l0 : List (List Int)) (P1_ : Nat → Prop) (A1 : Option Addr) (c1 : Nat) (l1 : List Int) (r1 : List Int) (r2 : Bool) (w : World) (hs0 : Kd.V (Kd.slice 3 (Kd.int .i64)) 35 w w.heap.size (fun k_ => P0_ k_) (.slice A0 l0.length c0) l0) (hs1 : Kd.V (Kd.int .i64) 3 w w.heap.size (fun k_ => P1_ k_) (.slice A1 l1.length c1) l1) (h : backreachref14_Spread.f k l0 l1 = some (r1, r2)) :
    Calls Try.prog 55 #[.slice A0 l0.length c0, .slice A1 l1.length c1] w fun e w' => ∃ v0_ : Value, e = .returned (.tuple #[v0_, .bool r2]) ∧ Kd.R (Kd.int .i64) 3 w' w.heap.size (fun k_ => (w.heap.size ≤ k_)) v0_ r1 ∧ Below w.heap.size w w' := by
  have HO0 := Aside0.mk (show Kd.V (Kd.slice 3 (Kd.int .i64)) 35 w w.heap.size (fun k_ => ((P0_ k_ ∨ P1_ k_) ∨ w.heap.size ≤ k_)) (.slice A0 l0.length c0) l0 from Kd.V_mono hs0 (fun k_ hk => .inl (.inl hk)))
  have HO1 := Aside0.mk (show Kd.V (Kd.int .i64) 3 w w.heap.size (fun k_ => ((P0_ k_ ∨ P1_ k_) ∨ w.heap.size ≤ k_)) (.slice A1 l1.length c1) l1 from Kd.V_mono hs1 (fun k_ hk => .inl (.inr hk)))
  have HB := Aside0.mk (Below.refl w.heap.size w)
  have H : ((backreachref14_Right.f k l0).bind fun t145 => (if t145 = true then ((backreachref14_Right.f k (([l1] : List (List Int)))).bind fun t149 => (backreachref14_Spread.j0 k l0 l1 (!t149))) else (backreachref14_Spread.j0 k l0 l1 true))) = some (r1, r2) := h
  clear h
  have HC3 := Aside0.mk H
  clear H
  go_enter Try.func55, Try.ntmps55
  go_upto_region 1 with (fail)
  go_cut [23] (fun v23 wc => ∃ (kq : Nat) (x23_2 : Bool), v23 = .bool x23_2 ∧ Aside0 (backreachref14_Spread.j0 kq l0 l1 x23_2 = some (r1, r2)) ∧ Aside0 (kq ≤ k) ∧ Aside0 (Kd.V (Kd.slice 3 (Kd.int .i64)) 35 wc w.heap.size (fun k_ => ((P0_ k_ ∨ P1_ k_) ∨ w.heap.size ≤ k_)) (.slice A0 l0.length c0) l0) ∧ Aside0 (Kd.V (Kd.int .i64) 3 wc w.heap.size (fun k_ => ((P0_ k_ ∨ P1_ k_) ∨ w.heap.size ≤ k_)) (.slice A1 l1.length c1) l1) ∧ Aside0 (Below w.heap.size w wc))
  case first =>
    have H := HC3.out
    clear HC3
    replace H := Option.bind_eq_some_iff.mp H
    obtain ⟨t145, A40, H⟩ := H
    replace H : (if t145 = true then ((backreachref14_Right.f k (([l1] : List (List Int)))).bind fun t149 => (backreachref14_Spread.j0 k l0 l1 (!t149))) else (backreachref14_Spread.j0 k l0 l1 true)) = some (r1, r2) := H
    have A4 := Aside0.mk A40
    clear A40
    by_cases c5 : t145 = true
    · subst c5
      have H1 : ((backreachref14_Right.f k (([l1] : List (List Int)))).bind fun t149 => (backreachref14_Spread.j0 k l0 l1 (!t149))) = some (r1, r2) := by rw [if_pos rfl] at H; exact H
      clear H
      have H := H1
      clear H1
      obtain ⟨y146, hy146⟩ : ∃ y_ : List (List Int), y_ = (([l1] : List (List Int))) := ⟨_, rfl⟩
      replace H : ((backreachref14_Right.f k y146).bind fun t149 => (backreachref14_Spread.j0 k l0 l1 (!t149))) = some (r1, r2) := by first | (rw [hy146]; with_reducible exact H) | (have H2_ := (Option.bind_some _ _).symm.trans H; rw [hy146]; with_reducible exact H2_) | (have H2_ := (Option.bind_some _ _).symm.trans H; with_reducible exact H2_) | with_reducible exact H | (rw [hy146]; exact H) | exact H
      have Ny146 := Aside0.mk hy146
      clear hy146
      replace H := Option.bind_eq_some_iff.mp H
      obtain ⟨t149, A60, H⟩ := H
      replace H : (backreachref14_Spread.j0 k l0 l1 (!t149)) = some (r1, r2) := H
      have A6 := Aside0.mk A60
      clear A60
      have H' := Aside0.mk H
      clear H
      have AY : backreachref14_Right.f k [l1] = some t149 := by rw [← Ny146.out]; exact A6.out
      have HLT : ∀ n : Nat, Kd.C (Kd.slice 3 (Kd.int .i64)) ((w.drewN n).alloc (.cells #[.slice A1 l1.length c1] 35)) (some ⟨w.heap.size, 0, none⟩) ([l1] : List (List Int)).length [l1] := fun n => lit_row (c := l1) (Kd.C_alloc (Kd.C_drewN (Kd.V_reads' HO1.out).2.2 n) _) (Kd.V_reads' HO1.out).2.1 (by rw [show w.heap.size = (w.drewN n).heap.size from rfl]; simp [World.cell?, World.alloc])
      go_wp2_with (first | ((with_reducible refine gate_callee (f := 23) rfl ?_); refine goesL_ (some 16) rfl rfl Try.func23 (by kernel_rfl) rfl #[.slice A0 l0.length c0] rfl (by (try simp only [List.map_toArray, List.map_cons, List.map_nil]); first | done | rfl | (simp only [List.length_drop, List.length_take]; rfl)) ?_; (with_reducible refine (backreachref14_Right.calls k _ _ l0 true _ ?side1 ?side2 A4.out).mono ?_); (case side1 => repeat (first | exact (Kd.V_reads' HO0.out).2.2 | (with_reducible refine Kd.C_alloc ?_ _) | (with_reducible refine Kd.C_drewN ?_ _) | (with_reducible refine Kd.C_drew ?_))); (case side2 => exact (Kd.V_reads' HO0.out).2.1); rintro e w' ⟨rfl, ⟨nd, rfl⟩⟩; refine ⟨_, rfl, ?_⟩) | (go_at_call 23; show Calls Try.prog 23 #[.slice (some ⟨w.heap.size, 0, none⟩) ([l1] : List (List Int)).length 1] _ _; refine (backreachref14_Right.calls k _ 1 [l1] t149 _ (HLT _) (Nat.le_refl 1) AY).mono ?_; rintro e w' ⟨rfl, ⟨nd, rfl⟩⟩))
      go_meet
      case rel => exact ⟨_, (!t149), (by first | rfl | (simp; done) | (simp [*]; done)), H', ⟨by first | omega | exact Nat.le_refl _⟩, ⟨by (with_reducible repeat (first | apply Kd.V_alloc | apply Kd.V_drewN | apply Kd.V_drew)); exact HO0.out⟩, ⟨by (with_reducible repeat (first | apply Kd.V_alloc | apply Kd.V_drewN | apply Kd.V_drew)); exact HO1.out⟩, ⟨by repeat (first | (with_reducible first | exact HB.out | apply below_alloc | apply pw_below_drewN | apply below_drew1) | exact HB.out)⟩⟩
    · replace c5 := Bool.eq_false_iff.mpr c5
      subst c5
      have H1 : (backreachref14_Spread.j0 k l0 l1 true) = some (r1, r2) := by rw [if_neg (show ¬ (false = true) by decide)] at H; exact H
      clear H
      have H := H1
      clear H1
      have H' := Aside0.mk H
      clear H
      go_wp2_with (first | ((with_reducible refine gate_callee (f := 23) rfl ?_); refine goesL_ (some 16) rfl rfl Try.func23 (by kernel_rfl) rfl #[.slice A0 l0.length c0] rfl (by (try simp only [List.map_toArray, List.map_cons, List.map_nil]); first | done | rfl | (simp only [List.length_drop, List.length_take]; rfl)) ?_; (with_reducible refine (backreachref14_Right.calls k _ _ l0 false _ ?side1 ?side2 A4.out).mono ?_); (case side1 => repeat (first | exact (Kd.V_reads' HO0.out).2.2 | (with_reducible refine Kd.C_alloc ?_ _) | (with_reducible refine Kd.C_drewN ?_ _) | (with_reducible refine Kd.C_drew ?_))); (case side2 => exact (Kd.V_reads' HO0.out).2.1); rintro e w' ⟨rfl, ⟨nd, rfl⟩⟩; refine ⟨_, rfl, ?_⟩))
      go_meet
      case rel => exact ⟨_, (true), (by first | rfl | (simp; done) | (simp [*]; done)), H', ⟨by first | omega | exact Nat.le_refl _⟩, ⟨by (with_reducible repeat (first | apply Kd.V_alloc | apply Kd.V_drewN | apply Kd.V_drew)); exact HO0.out⟩, ⟨by (with_reducible repeat (first | apply Kd.V_alloc | apply Kd.V_drewN | apply Kd.V_drew)); exact HO1.out⟩, ⟨by repeat (first | (with_reducible first | exact HB.out | apply below_alloc | apply pw_below_drewN | apply below_drew1) | exact HB.out)⟩⟩
  case rest =>
    clear HC3
    try clear c1
    try clear c2
    try clear p2
    try clear c5
    obtain ⟨kq, x23_2, rfl, HA, HJ2, HO_0, HO_1, HB⟩ := hcut
    cases kq with
    | zero => exact absurd HA.out (by simp [backreachref14_Spread.j0])
    | succ kj2 =>
      have H := HA.out
      clear HA
      simp only [backreachref14_Spread.j0] at H
      by_cases c10 : x23_2 = true
      · subst c10
        have H1 : (some (([] : List Int), false)) = some (r1, r2) := by rw [if_pos rfl] at H; exact H
        clear H
        have H := H1
        clear H1
        simp only [Option.some.injEq, Prod.mk.injEq] at H
        obtain ⟨rfl, rfl⟩ := H
        go_wp2
        go_ret2
        exact ⟨_, by first | rfl | (simp [errW_none, errW_some] <;> rfl) | (simp [*, errW_none, errW_some] <;> rfl), by first | exact Kd.R_nil _ _ _ _ _ | exact Kd.N_nil _ _ _ _ _ | exact Kd.V_nil _ _ _ _ _ | exact Kd.Q_nil _ _ _ _ _ | exact Kd.S_nil _ _ _ _ _, by repeat (first | (with_reducible first | exact HB.out | apply below_alloc | apply pw_below_drewN | apply below_drew1) | exact HB.out)⟩
      · replace c10 := Bool.eq_false_iff.mpr c10
        subst c10
        have H1 : ((some (([] : List (List Int)) : List (List Int))).bind fun y150 => (if y150.length + l0.length < 5864062014805 then ((some (y150 ++ l0 : List (List Int))).bind fun y153 => (if y153.length < 5864062014805 then ((backreachref14_Most.f kj2 (y153 ++ [l1])).bind fun t159 => (if 0 ≤ (wrap64 (t159 + 1)) then (if (wrap64 (t159 + 1) : Int).toNat ≤ 35184372088832 then (backreachref14_Spread.l0 kj2 l0 l1 t159 (List.replicate (wrap64 (t159 + 1) : Int).toNat 0) 0) else (none)) else (none))) else (none))) else (none))) = some (r1, r2) := by rw [if_neg (show ¬ (false = true) by decide)] at H; exact H
        clear H
        have H := H1
        clear H1
        obtain ⟨y150, hy150⟩ : ∃ y_ : List (List Int), y_ = (([] : List (List Int))) := ⟨_, rfl⟩
        replace H : (if y150.length + l0.length < 5864062014805 then ((some (y150 ++ l0 : List (List Int))).bind fun y153 => (if y153.length < 5864062014805 then ((backreachref14_Most.f kj2 (y153 ++ [l1])).bind fun t159 => (if 0 ≤ (wrap64 (t159 + 1)) then (if (wrap64 (t159 + 1) : Int).toNat ≤ 35184372088832 then (backreachref14_Spread.l0 kj2 l0 l1 t159 (List.replicate (wrap64 (t159 + 1) : Int).toNat 0) 0) else (none)) else (none))) else (none))) else (none)) = some (r1, r2) := by first | (rw [hy150]; with_reducible exact H) | (have H2_ := (Option.bind_some _ _).symm.trans H; rw [hy150]; with_reducible exact H2_) | (have H2_ := (Option.bind_some _ _).symm.trans H; with_reducible exact H2_) | with_reducible exact H | (rw [hy150]; exact H) | exact H
        have Ny150 := Aside0.mk hy150
        clear hy150
        by_cases c11 : y150.length + l0.length < 5864062014805
        · rw [if_pos c11] at H
          have LMc11 := Aside0.mk c11
          clear c11
          obtain ⟨y153, hy153⟩ : ∃ y_ : List (List Int), y_ = (y150 ++ l0) := ⟨_, rfl⟩
          replace H : (if y153.length < 5864062014805 then ((backreachref14_Most.f kj2 (y153 ++ [l1])).bind fun t159 => (if 0 ≤ (wrap64 (t159 + 1)) then (if (wrap64 (t159 + 1) : Int).toNat ≤ 35184372088832 then (backreachref14_Spread.l0 kj2 l0 l1 t159 (List.replicate (wrap64 (t159 + 1) : Int).toNat 0) 0) else (none)) else (none))) else (none)) = some (r1, r2) := by first | (rw [hy153]; with_reducible exact H) | (have H2_ := (Option.bind_some _ _).symm.trans H; rw [hy153]; with_reducible exact H2_) | (have H2_ := (Option.bind_some _ _).symm.trans H; with_reducible exact H2_) | with_reducible exact H | (rw [hy153]; exact H) | exact H
          have Ny153 := Aside0.mk hy153
          clear hy153
          by_cases c12 : y153.length < 5864062014805
          · rw [if_pos c12] at H
            have LMc12 := Aside0.mk c12
            clear c12
            obtain ⟨y156, hy156⟩ : ∃ y_ : List (List Int), y_ = (y153 ++ [l1]) := ⟨_, rfl⟩
            replace H : ((backreachref14_Most.f kj2 y156).bind fun t159 => (if 0 ≤ (wrap64 (t159 + 1)) then (if (wrap64 (t159 + 1) : Int).toNat ≤ 35184372088832 then (backreachref14_Spread.l0 kj2 l0 l1 t159 (List.replicate (wrap64 (t159 + 1) : Int).toNat 0) 0) else (none)) else (none))) = some (r1, r2) := by first | (rw [hy156]; with_reducible exact H) | (have H2_ := (Option.bind_some _ _).symm.trans H; rw [hy156]; with_reducible exact H2_) | (have H2_ := (Option.bind_some _ _).symm.trans H; with_reducible exact H2_) | with_reducible exact H | (rw [hy156]; exact H) | exact H
            have Ny156 := Aside0.mk hy156
            clear hy156
            replace H := Option.bind_eq_some_iff.mp H
            obtain ⟨t159, A130, H⟩ := H
            replace H : (if 0 ≤ (wrap64 (t159 + 1)) then (if (wrap64 (t159 + 1) : Int).toNat ≤ 35184372088832 then (backreachref14_Spread.l0 kj2 l0 l1 t159 (List.replicate (wrap64 (t159 + 1) : Int).toNat 0) 0) else (none)) else (none)) = some (r1, r2) := H
            have A13 := Aside0.mk A130
            clear A130
            obtain ⟨ji14, hji14⟩ : ∃ j_ : Int, (wrap64 (t159 + 1)) = j_ := ⟨_, rfl⟩
            replace H : (if 0 ≤ (ji14) then (if (ji14 : Int).toNat ≤ 35184372088832 then (backreachref14_Spread.l0 kj2 l0 l1 t159 (List.replicate (ji14 : Int).toNat 0) 0) else (none)) else (none)) = some (r1, r2) := by first | (rw [hji14] at H; exact H) | (simp only [hji14] at H ⊢; exact H)
            (try rw [hji14] at A13)
            have hji14w : (IntKind.i64.wrap (t159 + 1)) = ji14 := (i64_w _).trans hji14
            by_cases c15 : 0 ≤ (ji14)
            · rw [if_pos c15] at H
              have c15b0 := eq_true c15
              have c15b1 : decide (0 ≤ (ji14)) = true := decide_eq_true c15
              clear c15
              by_cases c16 : (ji14 : Int).toNat ≤ 35184372088832
              · rw [if_pos c16] at H
                have c16b0 := eq_true c16
                have c16b1 : decide ((ji14 : Int).toNat ≤ 35184372088832) = true := decide_eq_true c16
                clear c16
                obtain ⟨y160, hy160⟩ : ∃ y_ : List Int, y_ = (List.replicate (ji14 : Int).toNat 0) := ⟨_, rfl⟩
                replace H : (backreachref14_Spread.l0 kj2 l0 l1 t159 y160 0) = some (r1, r2) := by first | (rw [hy160]; with_reducible exact H) | (have H2_ := (Option.bind_some _ _).symm.trans H; rw [hy160]; with_reducible exact H2_) | (have H2_ := (Option.bind_some _ _).symm.trans H; with_reducible exact H2_) | with_reducible exact H | (rw [hy160]; exact H) | exact H
                have Ny160 := Aside0.mk hy160
                clear hy160
                have H' := Aside0.mk H
                clear H
                go_wp2_with (first | ((with_reducible refine gate_dst (N := 24) rfl ?_); (try (refine gate_guard (by rfl) ?_; dsimp only)); refine Kd.N_lit (Kd.slice 3 (Kd.int .i64)) _ 35 ?hg (N' := 24) ?hd (xs := ([] : List (List Int))) (inner := []) (ok := (fun k_ => ((P0_ k_ ∨ P1_ k_) ∨ w.heap.size ≤ k_))) (okp := (fun k_ => ((P0_ k_ ∨ P1_ k_) ∨ w.heap.size ≤ k_))) ?hr ?hp (fun _ hk => hk) ((show ∀ k_, wc.heap.size ≤ k_ → (fun k_ => ((P0_ k_ ∨ P1_ k_) ∨ w.heap.size ≤ k_)) k_ from fun k_ hk => (.inr (Nat.le_trans (below_size (by repeat (first | (with_reducible first | exact HB.out | apply below_alloc | apply pw_below_drewN | apply below_drew1) | exact HB.out))) hk))) _ (Nat.le_refl _)) (Below.refl _ _) (Nat.le_refl _) (by simp) ?_; (case hd => rfl); (case hg => rfl); (case hr => first | (go_simp; done) | (go_simp; rfl)); (case hp => exact (Reps.none _ _)); intro v151 w17 ho18 hb hg_ hnew_; clear hg_ hnew_; (first | rw [← Ny150.out] at ho18 | (simp only [Int.reduceToNat] at ho18; rw [← Ny150.out] at ho18)); have n0_ := Aside0.mk (Kd.V_elder' (by (with_reducible repeat (first | apply Kd.V_alloc | apply Kd.V_drewN | apply Kd.V_drew)); exact HO_0.out) (Kd.N_base ho18) hb); have n1_ := Aside0.mk (Kd.V_elder' (by (with_reducible repeat (first | apply Kd.V_alloc | apply Kd.V_drewN | apply Kd.V_drew)); exact HO_1.out) (Kd.N_base ho18) hb); have n2_ := Aside0.mk (Kd.N_lower ho18 (below_size (by repeat (first | (with_reducible first | exact HB.out | apply below_alloc | apply pw_below_drewN | apply below_drew1) | exact HB.out)))); have n3_ := Aside0.mk (below_step (by repeat (first | (with_reducible first | exact HB.out | apply below_alloc | apply pw_below_drewN | apply below_drew1) | exact HB.out)) hb); clear HO_0; clear HO_1; clear HB; have HO_0 := n0_; have HO_1 := n1_; have HO152 := n2_; have HB := n3_; clear n0_ n1_ n2_ n3_; clear hb ho18) | ((with_reducible refine gate_builtin (b := .append) (xs := #[.tmp 24, .tmp 25]) rfl ?_); (try (refine gate_guard (by rfl) ?_; dsimp only)); at_builtin; refine Kd.N_append_rows (Kd.slice 3 (Kd.int .i64)) (w0 := w) w.heap.size rfl (.tmp 24) (.tmp 25) 22 35 (.slice none 0 0) 24 rfl Try.underlying22 info35 rfl (by decide) (by omega) v151 y150 l0 _ _ _ (fun k_ => ((P0_ k_ ∨ P1_ k_) ∨ w.heap.size ≤ k_)) (fun k_ => ((fun k_ => ((P0_ k_ ∨ P1_ k_) ∨ w.heap.size ≤ k_))) k_ ∧ some k_ ≠ (v151 : Value).ownBlock) rfl rfl ?aO ?aR (fun _ hk => hk) ?aF ?aB ?aS ?aL ?_; (case aR => exact (by skip; exact Kd.V_F (Kd.V_mono (ok' := (fun k_ => ((fun k_ => ((P0_ k_ ∨ P1_ k_) ∨ w.heap.size ≤ k_))) k_ ∧ some k_ ≠ (v151 : Value).ownBlock)) (HO_0.out) (fun k_ hk => ⟨hk.1, hk.2⟩)))); (case aB => exact (by repeat (first | (with_reducible first | exact HB.out | apply below_alloc | apply pw_below_drewN | apply below_drew1) | exact HB.out))); (case aF => exact (fun k_ hk => (.inr (Nat.le_trans (below_size (by repeat (first | (with_reducible first | exact HB.out | apply below_alloc | apply pw_below_drewN | apply below_drew1) | exact HB.out))) hk)))); (case aO => exact (by (with_reducible repeat (first | apply Kd.N_alloc | apply Kd.N_drewN | apply Kd.N_drew)); exact HO152.out)); (case aS => exact (below_size (by repeat (first | (with_reducible first | exact HB.out | apply below_alloc | apply pw_below_drewN | apply below_drew1) | exact HB.out)))); (case aL => have := LMc11.out; omega); intro v154 w19 ho hb hg hat; rw [← Ny153.out] at ho; have n0_ := Aside0.mk (Kd.V_afterv (ok := (fun k_ => ((P0_ k_ ∨ P1_ k_) ∨ w.heap.size ≤ k_))) (by (with_reducible repeat (first | apply Kd.V_alloc | apply Kd.V_drewN | apply Kd.V_drew)); exact HO_0.out) hg hat); have n1_ := Aside0.mk (Kd.V_afterv (ok := (fun k_ => ((P0_ k_ ∨ P1_ k_) ∨ w.heap.size ≤ k_))) (by (with_reducible repeat (first | apply Kd.V_alloc | apply Kd.V_drewN | apply Kd.V_drew)); exact HO_1.out) hg hat); have n2_ := Aside0.mk (hb); have n3_ := Aside0.mk (ho); clear HO_0; clear HO_1; clear HB; clear HO152; have HO_0 := n0_; have HO_1 := n1_; have HB := n2_; have HO155 := n3_; clear n0_ n1_ n2_ n3_; clear ho hb hg hat) | ((with_reducible refine gate_builtin (b := .append) (xs := #[.tmp 26, .tmp 28]) rfl ?_); (try (refine gate_guard (by rfl) ?_; dsimp only)); at_builtin; refine Kd.N_append (Kd.slice 3 (Kd.int .i64)) (w0 := w) w.heap.size rfl (.tmp 26) (.tmp 28) 22 35 (.slice none 0 0) 24 rfl Try.underlying22 info35 rfl (by decide) (by omega) v154 y153 l1 [.slice A1 l1.length c1] (fun k_ => ((P0_ k_ ∨ P1_ k_) ∨ w.heap.size ≤ k_)) (fun k_ => ((fun k_ => ((P0_ k_ ∨ P1_ k_) ∨ w.heap.size ≤ k_))) k_ ∧ some k_ ≠ (v154 : Value).ownBlock) rfl rfl ?aP (fun _ hk => hk) ?aF ?aO ?aB ?aS ?aL ?_; (case aP => exact (Kd.FK_slice_mk (Kd.V_reads' (Kd.V_mono (ok' := (fun k_ => ((fun k_ => ((P0_ k_ ∨ P1_ k_) ∨ w.heap.size ≤ k_))) k_ ∧ some k_ ≠ (v154 : Value).ownBlock)) (HO_1.out) (fun k_ hk => ⟨hk.1, hk.2⟩))).2.1 (Kd.V_F (Kd.V_mono (ok' := (fun k_ => ((fun k_ => ((P0_ k_ ∨ P1_ k_) ∨ w.heap.size ≤ k_))) k_ ∧ some k_ ≠ (v154 : Value).ownBlock)) (HO_1.out) (fun k_ hk => ⟨hk.1, hk.2⟩))))); (case aB => exact (by repeat (first | (with_reducible first | exact HB.out | apply below_alloc | apply pw_below_drewN | apply below_drew1) | exact HB.out))); (case aF => exact (fun k_ hk => (.inr (Nat.le_trans (below_size (by repeat (first | (with_reducible first | exact HB.out | apply below_alloc | apply pw_below_drewN | apply below_drew1) | exact HB.out))) hk)))); (case aO => exact (by (with_reducible repeat (first | apply Kd.N_alloc | apply Kd.N_drewN | apply Kd.N_drew)); exact HO155.out)); (case aS => exact (below_size (by repeat (first | (with_reducible first | exact HB.out | apply below_alloc | apply pw_below_drewN | apply below_drew1) | exact HB.out)))); (case aL => have := LMc12.out; omega); intro v157 w20 ho hb hg hat; rw [← Ny156.out] at ho; have n0_ := Aside0.mk (Kd.V_afterv (ok := (fun k_ => ((P0_ k_ ∨ P1_ k_) ∨ w.heap.size ≤ k_))) (by (with_reducible repeat (first | apply Kd.V_alloc | apply Kd.V_drewN | apply Kd.V_drew)); exact HO_0.out) hg hat); have n1_ := Aside0.mk (Kd.V_afterv (ok := (fun k_ => ((P0_ k_ ∨ P1_ k_) ∨ w.heap.size ≤ k_))) (by (with_reducible repeat (first | apply Kd.V_alloc | apply Kd.V_drewN | apply Kd.V_drew)); exact HO_1.out) hg hat); have n2_ := Aside0.mk (hb); have n3_ := Aside0.mk (ho); clear HO_0; clear HO_1; clear HB; clear HO155; have HO_0 := n0_; have HO_1 := n1_; have HB := n2_; have HO158 := n3_; clear n0_ n1_ n2_ n3_; clear ho hb hg hat; obtain ⟨Ao21, co21, eo21⟩ := Kd.N_slice HO158.out; subst eo21) | ((with_reducible refine gate_callee (f := 24) rfl ?_); refine goesL_ (some 30) rfl rfl Try.func24 (by kernel_rfl) rfl #[.slice Ao21 y156.length co21] rfl (by (try simp only [List.map_toArray, List.map_cons, List.map_nil]); first | done | rfl | (simp only [List.length_drop, List.length_take]; rfl)) ?_; (with_reducible refine (backreachref14_Most.calls kj2 _ _ y156 t159 _ ?side1 ?side2 A13.out).mono ?_); (case side1 => repeat (first | exact (Kd.N_reads' HO158.out).2.2 | (with_reducible refine Kd.C_alloc ?_ _) | (with_reducible refine Kd.C_drewN ?_ _) | (with_reducible refine Kd.C_drew ?_))); (case side2 => exact (Kd.N_reads' HO158.out).2.1); rintro e w' ⟨rfl, ⟨nd, rfl⟩⟩; refine ⟨_, rfl, ?_⟩) | ((with_reducible refine gate_dst (N := 33) rfl ?_); (try (refine gate_guard (by rfl) ?_; dsimp only)); refine Kd.R_make (Kd.int .i64) _ 3 rfl (N := 33) rfl 35 _ _ rfl ji14 rfl rfl Try.underlying35 (.int .i64 0) 8 info3 rfl (by decide) (by omega) 0 (ok := fun _ => True) (okp := fun _ => True) rfl (fun _ hk => hk) trivial (of_decide_eq_true (by first | (with_reducible assumption) | assumption)) (Nat.le_trans (Nat.mul_le_mul_right _ (of_decide_eq_true (by first | (with_reducible assumption) | assumption) : ji14.toNat ≤ 35184372088832)) (by omega)) (Below.refl _ _) (Nat.le_refl _) ?_; intro v161 w22 ho23 hb hg_ hnew_; clear hg_ hnew_; (first | rw [← Ny160.out] at ho23 | (simp only [Int.reduceToNat] at ho23; rw [← Ny160.out] at ho23)); have n0_ := Aside0.mk (Kd.V_elder' (by (with_reducible repeat (first | apply Kd.V_alloc | apply Kd.V_drewN | apply Kd.V_drew)); exact HO_0.out) (Kd.R_base ho23) hb); have n1_ := Aside0.mk (Kd.V_elder' (by (with_reducible repeat (first | apply Kd.V_alloc | apply Kd.V_drewN | apply Kd.V_drew)); exact HO_1.out) (Kd.R_base ho23) hb); have n2_ := Aside0.mk (Kd.N_elder' (by (with_reducible repeat (first | apply Kd.N_alloc | apply Kd.N_drewN | apply Kd.N_drew)); exact HO158.out) (Kd.R_base ho23) hb); have n3_ := Aside0.mk (Kd.R_lower (Kd.R_newM (M := fun k_ => (w.heap.size ≤ k_)) ho23 (below_size (by repeat (first | (with_reducible first | exact HB.out | apply below_alloc | apply pw_below_drewN | apply below_drew1) | exact HB.out))) (fun k_ h_ => h_)) (below_size (by repeat (first | (with_reducible first | exact HB.out | apply below_alloc | apply pw_below_drewN | apply below_drew1) | exact HB.out)))); have n4_ := Aside0.mk (below_step (by repeat (first | (with_reducible first | exact HB.out | apply below_alloc | apply pw_below_drewN | apply below_drew1) | exact HB.out)) hb); clear HO_0; clear HO_1; clear HO158; clear HB; have HO_0 := n0_; have HO_1 := n1_; have HO158 := n2_; have HO162 := n3_; have HB := n4_; clear n0_ n1_ n2_ n3_ n4_; clear hb ho23))
                go_loopg [8] kj2 (fun kq v8 w' => ∃ (x7_2 : List Int) (x8_2 : Int), v8 = .int .i64 x8_2 ∧ Aside0 (backreachref14_Spread.l0 kq l0 l1 t159 x7_2 x8_2 = some (r1, r2)) ∧ Aside0 (kq ≤ kj2) ∧ Aside0 (Kd.V (Kd.slice 3 (Kd.int .i64)) 35 w' w.heap.size (fun k_ => ((P0_ k_ ∨ P1_ k_) ∨ w.heap.size ≤ k_) ∧ some k_ ≠ (v161 : Value).ownBlock) (.slice A0 l0.length c0) l0) ∧ Aside0 (Kd.V (Kd.int .i64) 3 w' w.heap.size (fun k_ => ((P0_ k_ ∨ P1_ k_) ∨ w.heap.size ≤ k_) ∧ some k_ ≠ (v161 : Value).ownBlock) (.slice A1 l1.length c1) l1) ∧ Aside0 (Kd.R (Kd.int .i64) 3 w' w.heap.size (fun k_ => (w.heap.size ≤ k_)) v161 x7_2) ∧ Aside0 (Below w.heap.size w w'))
                case atStart => exact ⟨(y160), (0), (by first | rfl | (simp; done) | (simp [*]; done)), H', ⟨Nat.le_refl _⟩, ⟨by (with_reducible repeat (first | apply Kd.V_alloc | apply Kd.V_drewN | apply Kd.V_drew)); exact Kd.V_mono HO_0.out (fun _ hk => ⟨hk.1.1, hk.2⟩)⟩, ⟨by (with_reducible repeat (first | apply Kd.V_alloc | apply Kd.V_drewN | apply Kd.V_drew)); exact Kd.V_mono HO_1.out (fun _ hk => ⟨hk.1.1, hk.2⟩)⟩, ⟨by (with_reducible repeat (first | apply Kd.R_alloc | apply Kd.R_drewN | apply Kd.R_drew)); exact Kd.R_mono HO162.out (fun _ hk => hk.1)⟩, ⟨by repeat (first | (with_reducible first | exact HB.out | apply below_alloc | apply pw_below_drewN | apply below_drew1) | exact HB.out)⟩⟩
                case round =>
                  clear H'
                  try clear c1
                  try clear c2
                  try clear p2
                  try clear c5
                  try clear p6
                  try clear c10
                  try clear c11
                  try clear c12
                  try clear c15
                  try clear c15b0
                  try clear c15b1
                  try clear c16
                  try clear c16b0
                  try clear c16b1
                  try clear c23
                  try clear p2
                  obtain ⟨x7_2, x8_2, rfl, HA, HK2, HO_0, HO_1, HO_7, HB⟩ := hrel
                  cases gk with
                  | zero => exact absurd HA.out (by simp [backreachref14_Spread.l0])
                  | succ k2 =>
                    have H := HA.out
                    clear HA
                    simp only [backreachref14_Spread.l0] at H
                    by_cases c24 : x8_2 < (l1.length : Int)
                    · rw [if_pos c24] at H
                      have c24b0 : decide (x8_2 < (l1.length : Int)) = true := decide_eq_true c24
                      clear c24
                      by_cases c25 : 0 ≤ x8_2
                      · rw [if_pos c25] at H
                        have c25b0 : decide (0 ≤ x8_2) = true := decide_eq_true c25
                        clear c25
                        replace H := Option.bind_eq_some_iff.mp H
                        obtain ⟨t164, A260, H⟩ := H
                        replace H : (if 0 ≤ t164 then (if t164 < (x7_2.length : Int) then (if (rd x7_2 t164) = 0 then ((backreachref14_sign.f (rd l1 x8_2)).bind fun t167 => (backreachref14_Spread.l0 k2 l0 l1 t159 (x7_2.set (t164 : Int).toNat t167) (wrap64 (x8_2 + 1)))) else ((backreachref14_sign.f (rd l1 x8_2)).bind fun t171 => (if (rd x7_2 t164) = t171 then ((backreachref14_sign.f (rd l1 x8_2)).bind fun t173 => (backreachref14_Spread.l0 k2 l0 l1 t159 (x7_2.set (t164 : Int).toNat t173) (wrap64 (x8_2 + 1)))) else (some (([] : List Int), false))))) else (none)) else (none)) = some (r1, r2) := H
                        have A26 := Aside0.mk A260
                        clear A260
                        by_cases c27 : 0 ≤ t164
                        · rw [if_pos c27] at H
                          have c27b0 : decide (0 ≤ t164) = true := decide_eq_true c27
                          clear c27
                          by_cases c28 : t164 < (x7_2.length : Int)
                          · rw [if_pos c28] at H
                            have c28b0 : decide (t164 < (x7_2.length : Int)) = true := decide_eq_true c28
                            clear c28
                            by_cases c29 : (rd x7_2 t164) = 0
                            · rw [if_pos c29] at H
                              have c29b0 : ((rd x7_2 t164) == 0) = true := beq_iff_eq.mpr c29
                              have c29b1 : ((rd x7_2 t164) != 0) = false := bne_eq_false_iff_eq.mpr c29
                              clear c29
                              replace H := Option.bind_eq_some_iff.mp H
                              obtain ⟨t167, A300, H⟩ := H
                              replace H : (backreachref14_Spread.l0 k2 l0 l1 t159 (x7_2.set (t164 : Int).toNat t167) (wrap64 (x8_2 + 1))) = some (r1, r2) := H
                              have A30 := Aside0.mk A300
                              clear A300
                              obtain ⟨y168, hy168⟩ : ∃ y_ : List Int, y_ = (x7_2.set (t164 : Int).toNat t167) := ⟨_, rfl⟩
                              replace H : (backreachref14_Spread.l0 k2 l0 l1 t159 y168 (wrap64 (x8_2 + 1))) = some (r1, r2) := by first | (rw [hy168]; with_reducible exact H) | (have H2_ := (Option.bind_some _ _).symm.trans H; rw [hy168]; with_reducible exact H2_) | (have H2_ := (Option.bind_some _ _).symm.trans H; with_reducible exact H2_) | with_reducible exact H | (rw [hy168]; exact H) | exact H
                              have Ny168 := Aside0.mk hy168
                              clear hy168
                              have H' := Aside0.mk H
                              clear H
                              have p163 : 0 ≤ (x8_2 : Int) := of_decide_eq_true (by first | (with_reducible assumption) | assumption)
                              have q163 : x8_2 < (l1.length : Int) := of_decide_eq_true (by first | (with_reducible assumption) | assumption)
                              obtain ⟨ad163, e163, hx163_0⟩ := Kd.at_int (Kd.V_reads' HO_1.out).2.2 x8_2 p163 q163
                              cases e163
                              replace p163 := eq_true p163
                              replace q163 := eq_true q163
                              try go_wp2_with (first | ((with_reducible refine gate_callee (f := 46) rfl ?_); refine goesL_ (some 44) rfl rfl Try.func46 (by kernel_rfl) rfl #[.int .i64 (rd l1 x8_2)] rfl (by (try simp only [List.map_toArray, List.map_cons, List.map_nil]); first | done | rfl | (simp only [List.length_drop, List.length_take]; rfl)) ?_; (with_reducible refine (backreachref14_Var.calls (rd l1 x8_2) t164 _ A26.out).mono ?_); rintro e w' ⟨rfl, ⟨nd, rfl⟩⟩; refine ⟨_, rfl, ?_⟩; (try (rw [drewN_self wr]; generalize hq_ : World.drewN wr _ = wr; have n0_ : Aside0 (Kd.V (Kd.slice 3 (Kd.int .i64)) 35 wr w.heap.size (fun k_ => ((P0_ k_ ∨ P1_ k_) ∨ w.heap.size ≤ k_) ∧ some k_ ≠ (v161 : Value).ownBlock) (.slice A0 l0.length c0) l0) := ⟨by rw [← hq_]; exact (by (with_reducible repeat (first | apply Kd.V_alloc | apply Kd.V_drewN | apply Kd.V_drew)); exact HO_0.out)⟩; have n1_ : Aside0 (Kd.V (Kd.int .i64) 3 wr w.heap.size (fun k_ => ((P0_ k_ ∨ P1_ k_) ∨ w.heap.size ≤ k_) ∧ some k_ ≠ (v161 : Value).ownBlock) (.slice (some ad163) l1.length c1) l1) := ⟨by rw [← hq_]; exact (by (with_reducible repeat (first | apply Kd.V_alloc | apply Kd.V_drewN | apply Kd.V_drew)); exact HO_1.out)⟩; have n2_ : Aside0 (Kd.R (Kd.int .i64) 3 wr w.heap.size (fun k_ => (w.heap.size ≤ k_)) v161 x7_2) := ⟨by rw [← hq_]; exact (by (with_reducible repeat (first | apply Kd.R_alloc | apply Kd.R_drewN | apply Kd.R_drew)); exact HO_7.out)⟩; have n3_ : Aside0 (Below w.heap.size w wr) := ⟨by rw [← hq_]; exact (by repeat (first | (with_reducible first | exact HB.out | apply below_alloc | apply pw_below_drewN | apply below_drew1) | exact HB.out))⟩; clear HO_0 HO_1 HO_7 HB hq_; have HO_0 := n0_; have HO_1 := n1_; have HO_7 := n2_; have HB := n3_; clear n0_ n1_ n2_ n3_))))
                              have n0_ := Aside0.mk (Kd.V_drew HO_0.out)
                              have n1_ := Aside0.mk (Kd.V_drew HO_1.out)
                              have n2_ := Aside0.mk (Kd.R_drew HO_7.out)
                              have n3_ := Aside0.mk (below_drew1 HB.out)
                              clear HO_0
                              clear HO_1
                              clear HO_7
                              clear HB
                              have HO_0 := n0_
                              have HO_1 := n1_
                              have HO_7 := n2_
                              have HB := n3_
                              clear n0_ n1_ n2_ n3_
                              obtain ⟨Ao33, co33, eo33⟩ := Kd.R_slice HO_7.out
                              (first | subst eo33 | (injection eo33 with f1_ f2_ f3_; have f4_ := f1_.symm; have f5_ := f3_.symm; clear f1_ f2_ f3_; subst f4_; subst f5_))
                              have p165 : 0 ≤ (t164 : Int) := of_decide_eq_true (by first | (with_reducible assumption) | assumption)
                              have q165 : t164 < (x7_2.length : Int) := of_decide_eq_true (by first | (with_reducible assumption) | assumption)
                              obtain ⟨ad165, e165, hx165_0⟩ := Kd.at_int (Kd.R_reads' HO_7.out).2.2 t164 p165 q165
                              cases e165
                              replace p165 := eq_true p165
                              replace q165 := eq_true q165
                              refine start_ (n := 17) (S := fun w' => w'.cell? (ad165.add (t164).toNat) = some (.int .i64 (rd x7_2 t164))) (ds := []) #[false, false, false, false, false, false, false, false, false, false, false, false, false, false, false, false, false] (by kernel_rfl) rfl rfl (hx165_0) (fun hHeld => ?_); refine with_tabW backreachref14_Spread.tab9 backreachref14_Spread.bits9 (fun HT_ HW_ => ?_)
                              generalize wr.drew = w32 at HO_0 HO_1 HO_7 HB hx165_0 hHeld ⊢
                              refine pure_ (i := 0) (N := some 45) (v := ?_) (a' := ?_) #[true, false, false, false, false, false, false, false, false, false, false, false, false, false, false, false, false] rfl rfl (any_of HT_.out (by kernel_rfl)) (fun _ _ _ h => h) (Or.inl ⟨by rfl, ?_⟩) ?_ ?_
                              rotate_left
                              · intro w'
                                go_simp
                                with_reducible rfl
                              rotate_left
                              · simp only [Act.put, List.setIfInBounds_toArray, List.set_cons_zero, List.set_cons_succ, i64_w, i32_w]
                                rfl
                              refine pure_ (i := 1) (N := some 46) (v := ?_) (a' := ?_) #[true, true, false, false, false, false, false, false, false, false, false, false, false, false, false, false, false] rfl rfl (any_of HT_.out (by kernel_rfl)) (fun _ _ _ h => h) (Or.inl ⟨by rfl, ?_⟩) ?_ ?_
                              rotate_left
                              · intro w'
                                go_simp
                                with_reducible rfl
                              rotate_left
                              · simp only [Act.put, List.setIfInBounds_toArray, List.set_cons_zero, List.set_cons_succ, i64_w, i32_w]
                                rfl
                              refine pure_ (i := 2) (N := some 47) (v := ?_) (a' := ?_) #[true, true, true, false, false, false, false, false, false, false, false, false, false, false, false, false, false] rfl rfl (any_of HT_.out (by kernel_rfl)) (fun _ _ _ h => h) (Or.inl ⟨by rfl, ?_⟩) ?_ ?_
                              rotate_left
                              · intro w'
                                go_simp
                                with_reducible rfl
                              rotate_left
                              · simp only [Act.put, List.setIfInBounds_toArray, List.set_cons_zero, List.set_cons_succ, i64_w, i32_w]
                                rfl
                              refine take_ (i := 3) (N := some 48) (v := ?_) (a' := ?_) #[true, true, true, true, false, false, false, false, false, false, false, false, false, false, false, false, false] rfl rfl (take_ofW HT_.out HW_.out (by kernel_rfl)) (fun _ _ _ h => h) (Or.inl ⟨by rfl, ?_⟩) hHeld ?_ ?_
                              rotate_left
                              · intro w' s0
                                go_simp
                                with_reducible rfl
                              rotate_left
                              · simp only [Act.put, List.setIfInBounds_toArray, List.set_cons_zero, List.set_cons_succ, i64_w, i32_w]
                                rfl
                              refine pure_ (i := 4) (N := some 49) (v := ?_) (a' := ?_) #[true, true, true, true, true, false, false, false, false, false, false, false, false, false, false, false, false] rfl rfl (any_of HT_.out (by kernel_rfl)) (fun _ _ _ h => h) (Or.inl ⟨by rfl, ?_⟩) ?_ ?_
                              rotate_left
                              · intro w'
                                go_simp
                                with_reducible rfl
                              rotate_left
                              · simp only [Act.put, List.setIfInBounds_toArray, List.set_cons_zero, List.set_cons_succ, i64_w, i32_w]
                                rfl
                              refine pure_ (i := 5) (N := some 50) (v := ?_) (a' := ?_) #[true, true, true, true, true, true, false, false, false, false, false, false, false, false, false, false, false] rfl rfl (any_of HT_.out (by kernel_rfl)) (fun _ _ _ h => h) (Or.inl ⟨by rfl, ?_⟩) ?_ ?_
                              rotate_left
                              · intro w'
                                go_simp
                                with_reducible rfl
                              rotate_left
                              · simp only [Act.put, List.setIfInBounds_toArray, List.set_cons_zero, List.set_cons_succ, i64_w, i32_w]
                                rfl
                              refine pure_ (i := 6) (N := some 51) (v := undef) (a' := ?_) #[true, true, true, true, true, true, true, false, false, false, false, false, false, false, false, false, false] rfl rfl (any_of HT_.out (by kernel_rfl)) (fun _ _ _ h => h) (Or.inr ⟨by rfl, rfl⟩) ?_ ?_
                              rotate_left
                              · simp only [Act.put, List.setIfInBounds_toArray, List.set_cons_zero, List.set_cons_succ, i64_w, i32_w]
                                rfl
                              refine pure_ (i := 7) (N := some 52) (v := undef) (a' := ?_) #[true, true, true, true, true, true, true, true, false, false, false, false, false, false, false, false, false] rfl rfl (any_of HT_.out (by kernel_rfl)) (fun _ _ _ h => h) (Or.inr ⟨by rfl, rfl⟩) ?_ ?_
                              rotate_left
                              · simp only [Act.put, List.setIfInBounds_toArray, List.set_cons_zero, List.set_cons_succ, i64_w, i32_w]
                                rfl
                              refine pure_ (i := 8) (N := some 53) (v := undef) (a' := ?_) #[true, true, true, true, true, true, true, true, true, false, false, false, false, false, false, false, false] rfl rfl (any_of HT_.out (by kernel_rfl)) (fun _ _ _ h => h) (Or.inr ⟨by rfl, rfl⟩) ?_ ?_
                              rotate_left
                              · simp only [Act.put, List.setIfInBounds_toArray, List.set_cons_zero, List.set_cons_succ, i64_w, i32_w]
                                rfl
                              refine pure_ (i := 9) (N := some 54) (v := undef) (a' := ?_) #[true, true, true, true, true, true, true, true, true, true, false, false, false, false, false, false, false] rfl rfl (any_of HT_.out (by kernel_rfl)) (fun _ _ _ h => h) (Or.inr ⟨by rfl, rfl⟩) ?_ ?_
                              rotate_left
                              · simp only [Act.put, List.setIfInBounds_toArray, List.set_cons_zero, List.set_cons_succ, i64_w, i32_w]
                                rfl
                              refine pure_ (i := 10) (N := some 55) (v := undef) (a' := ?_) #[true, true, true, true, true, true, true, true, true, true, true, false, false, false, false, false, false] rfl rfl (any_of HT_.out (by kernel_rfl)) (fun _ _ _ h => h) (Or.inr ⟨by rfl, rfl⟩) ?_ ?_
                              rotate_left
                              · simp only [Act.put, List.setIfInBounds_toArray, List.set_cons_zero, List.set_cons_succ, i64_w, i32_w]
                                rfl
                              refine pure_ (i := 11) (N := some 56) (v := undef) (a' := ?_) #[true, true, true, true, true, true, true, true, true, true, true, true, false, false, false, false, false] rfl rfl (any_of HT_.out (by kernel_rfl)) (fun _ _ _ h => h) (Or.inr ⟨by rfl, rfl⟩) ?_ ?_
                              rotate_left
                              · simp only [Act.put, List.setIfInBounds_toArray, List.set_cons_zero, List.set_cons_succ, i64_w, i32_w]
                                rfl
                              refine pure_ (i := 12) (N := some 57) (v := undef) (a' := ?_) #[true, true, true, true, true, true, true, true, true, true, true, true, true, false, false, false, false] rfl rfl (any_of HT_.out (by kernel_rfl)) (fun _ _ _ h => h) (Or.inr ⟨by rfl, rfl⟩) ?_ ?_
                              rotate_left
                              · simp only [Act.put, List.setIfInBounds_toArray, List.set_cons_zero, List.set_cons_succ, i64_w, i32_w]
                                rfl
                              refine pure_ (i := 13) (N := some 58) (v := undef) (a' := ?_) #[true, true, true, true, true, true, true, true, true, true, true, true, true, true, false, false, false] rfl rfl (any_of HT_.out (by kernel_rfl)) (fun _ _ _ h => h) (Or.inr ⟨by rfl, rfl⟩) ?_ ?_
                              rotate_left
                              · simp only [Act.put, List.setIfInBounds_toArray, List.set_cons_zero, List.set_cons_succ, i64_w, i32_w]
                                rfl
                              refine pure_ (i := 14) (N := some 59) (v := undef) (a' := ?_) #[true, true, true, true, true, true, true, true, true, true, true, true, true, true, true, false, false] rfl rfl (any_of HT_.out (by kernel_rfl)) (fun _ _ _ h => h) (Or.inr ⟨by rfl, rfl⟩) ?_ ?_
                              rotate_left
                              · simp only [Act.put, List.setIfInBounds_toArray, List.set_cons_zero, List.set_cons_succ, i64_w, i32_w]
                                rfl
                              refine pure_ (i := 15) (N := some 60) (v := undef) (a' := ?_) #[true, true, true, true, true, true, true, true, true, true, true, true, true, true, true, true, false] rfl rfl (any_of HT_.out (by kernel_rfl)) (fun _ _ _ h => h) (Or.inr ⟨by rfl, rfl⟩) ?_ ?_
                              rotate_left
                              · simp only [Act.put, List.setIfInBounds_toArray, List.set_cons_zero, List.set_cons_succ, i64_w, i32_w]
                                rfl
                              refine pure_ (i := 16) (N := some 61) (v := ?_) (a' := ?_) #[true, true, true, true, true, true, true, true, true, true, true, true, true, true, true, true, true] rfl rfl (any_of HT_.out (by kernel_rfl)) (fun _ _ _ h => h) (Or.inl ⟨by rfl, ?_⟩) ?_ ?_
                              rotate_left
                              · intro w'
                                go_simp
                                with_reducible rfl
                              rotate_left
                              · simp only [Act.put, List.setIfInBounds_toArray, List.set_cons_zero, List.set_cons_succ, i64_w, i32_w]
                                rfl
                              refine done_ (done_of HT_.out (by kernel_rfl)) ?_
                              have p166 : 0 ≤ (x8_2 : Int) := of_decide_eq_true (by first | (with_reducible assumption) | assumption)
                              have q166 : x8_2 < (l1.length : Int) := of_decide_eq_true (by first | (with_reducible assumption) | assumption)
                              obtain ⟨ad166, e166, hx166_0⟩ := Kd.at_int (Kd.V_reads' HO_1.out).2.2 x8_2 p166 q166
                              obtain rfl : ad163 = ad166 := (by injection e166)
                              replace p166 := eq_true p166
                              replace q166 := eq_true q166
                              try go_wp2_with (first | ((with_reducible refine gate_callee (f := 73) rfl ?_); refine goesL_ (some 68) rfl rfl Try.func73 (by kernel_rfl) rfl #[.int .i64 (rd l1 x8_2)] rfl (by (try simp only [List.map_toArray, List.map_cons, List.map_nil]); first | done | rfl | (simp only [List.length_drop, List.length_take]; rfl)) ?_; (with_reducible refine (backreachref14_sign.calls (rd l1 x8_2) t167 _ A30.out).mono ?_); rintro e w' ⟨rfl, ⟨nd, rfl⟩⟩; refine ⟨_, rfl, ?_⟩; (try (rw [drewN_self w32]; generalize hq_ : World.drewN w32 _ = w32; have n0_ : Aside0 (Kd.V (Kd.slice 3 (Kd.int .i64)) 35 w32 w.heap.size (fun k_ => ((P0_ k_ ∨ P1_ k_) ∨ w.heap.size ≤ k_) ∧ some k_ ≠ (.slice (some ad165) x7_2.length co33 : Value).ownBlock) (.slice A0 l0.length c0) l0) := ⟨by rw [← hq_]; exact (by (with_reducible repeat (first | apply Kd.V_alloc | apply Kd.V_drewN | apply Kd.V_drew)); exact HO_0.out)⟩; have n1_ : Aside0 (Kd.V (Kd.int .i64) 3 w32 w.heap.size (fun k_ => ((P0_ k_ ∨ P1_ k_) ∨ w.heap.size ≤ k_) ∧ some k_ ≠ (.slice (some ad165) x7_2.length co33 : Value).ownBlock) (.slice (some ad163) l1.length c1) l1) := ⟨by rw [← hq_]; exact (by (with_reducible repeat (first | apply Kd.V_alloc | apply Kd.V_drewN | apply Kd.V_drew)); exact HO_1.out)⟩; have n2_ : Aside0 (Kd.R (Kd.int .i64) 3 w32 w.heap.size (fun k_ => (w.heap.size ≤ k_)) (.slice (some ad165) x7_2.length co33) x7_2) := ⟨by rw [← hq_]; exact (by (with_reducible repeat (first | apply Kd.R_alloc | apply Kd.R_drewN | apply Kd.R_drew)); exact HO_7.out)⟩; have n3_ : Aside0 (Below w.heap.size w w32) := ⟨by rw [← hq_]; exact (by repeat (first | (with_reducible first | exact HB.out | apply below_alloc | apply pw_below_drewN | apply below_drew1) | exact HB.out))⟩; clear HO_0 HO_1 HO_7 HB hq_; have HO_0 := n0_; have HO_1 := n1_; have HO_7 := n2_; have HB := n3_; clear n0_ n1_ n2_ n3_)); have p31 : 0 ≤ (t164 : Int) := of_decide_eq_true (by first | (with_reducible assumption) | assumption); have q31 : (t164 : Int) < ((x7_2.length : Int) : Int) := of_decide_eq_true (by first | (with_reducible assumption) | assumption); obtain ⟨go31, co31, eo31, gb31, gl31, cl31, HG31⟩ := Kd.R_form HO_7.out (by omega); (first | cases eo31 | (injection eo31 with ea_ en_ ec_; (first | subst ea_ | (injection ea_ with ea_; subst ea_)); subst ec_; clear en_)); have GB31 := Aside0.mk gb31; have GG31 := Aside0.mk HG31; clear gb31 gl31 HG31; (first | simp only [add_plain] at hx165_0 | skip); obtain ⟨hx31_0, hf31_0⟩ := Kd.R_celln 0 HO_7.out (t164 : Int) p31 q31; replace p31 := eq_true p31; replace q31 := eq_true q31; obtain ⟨hy34_, hz34_⟩ := Kd.R_celln 0 HO_7.out (t164 : Int) (of_decide_eq_true (by first | (with_reducible assumption) | assumption)) (of_decide_eq_true (by first | (with_reducible assumption) | assumption)); have HP34 := Kd.R_putg HO_7.out (t164 : Int) t167) | ((with_reducible refine gate_store (t := 3) (p := 69) rfl ?_); refine store_event (t := 3) (p := 69) (v := ?vo_w35) (w1 := (w32.setCell ⟨go31, (t164 : Int).toNat, none⟩ (.int .i64 t167))) ?hg ?ho ?hn ?hr ?_; (case ho => rfl); (case hg => rfl); (case hn => rfl); (case hr => first | (go_simp; done) | (go_simp; rfl)); intro w35 hw; have hg : w32.grownBy w35 (some go31) := (by rw [hw]; exact HP34.2); have hp_ : Kd.R (Kd.int .i64) 3 w35 w.heap.size (fun k_ => (w.heap.size ≤ k_)) (.slice (some ⟨go31, 0, none⟩) x7_2.length co33) y168 := (by rw [hw, Ny168.out]; exact HP34.1); clear HP34; have n0_ := Aside0.mk (Kd.V_afterv (v := (.slice (some ⟨go31, 0, none⟩) x7_2.length co33)) (v1 := (.slice (some ⟨go31, 0, none⟩) x7_2.length co33)) (ok := (fun k_ => ((P0_ k_ ∨ P1_ k_) ∨ w.heap.size ≤ k_))) (by (with_reducible repeat (first | apply Kd.V_alloc | apply Kd.V_drewN | apply Kd.V_drew)); exact HO_0.out) hg (.inl rfl)); have n1_ := Aside0.mk (Kd.V_afterv (v := (.slice (some ⟨go31, 0, none⟩) x7_2.length co33)) (v1 := (.slice (some ⟨go31, 0, none⟩) x7_2.length co33)) (ok := (fun k_ => ((P0_ k_ ∨ P1_ k_) ∨ w.heap.size ≤ k_))) (by (with_reducible repeat (first | apply Kd.V_alloc | apply Kd.V_drewN | apply Kd.V_drew)); exact HO_1.out) hg (.inl rfl)); have n2_ := Aside0.mk (hp_); have n3_ := Aside0.mk ((by rw [hw]; exact below_set (HB.out) GB31.out : Below w.heap.size w w35)); clear HO_0; clear HO_1; clear HO_7; clear HB; have HO_0 := n0_; have HO_1 := n1_; have HO_7 := n2_; have HB := n3_; clear n0_ n1_ n2_ n3_; clear hg hw hp_))
                              go_roundg k2
                              case measure => have := HJ2.out; have := HK2.out; omega
                              case rel => exact ⟨(y168), (wrap64 (x8_2 + 1)), (by first | rfl | (simp; done) | (simp [*]; done)), H', ⟨by have := HJ2.out; have := HK2.out; omega⟩, ⟨by (with_reducible repeat (first | apply Kd.V_alloc | apply Kd.V_drewN | apply Kd.V_drew)); exact HO_0.out⟩, ⟨by (with_reducible repeat (first | apply Kd.V_alloc | apply Kd.V_drewN | apply Kd.V_drew)); exact HO_1.out⟩, ⟨by (with_reducible repeat (first | apply Kd.R_alloc | apply Kd.R_drewN | apply Kd.R_drew)); exact HO_7.out⟩, ⟨by repeat (first | (with_reducible first | exact HB.out | apply below_alloc | apply pw_below_drewN | apply below_drew1) | exact HB.out)⟩⟩
                            · rw [if_neg c29] at H
                              have c29b0 : ((rd x7_2 t164) == 0) = false := beq_eq_false_iff_ne.mpr c29
                              have c29b1 : ((rd x7_2 t164) != 0) = true := bne_iff_ne.mpr c29
                              replace H := Option.bind_eq_some_iff.mp H
                              obtain ⟨t171, A360, H⟩ := H
                              replace H : (if (rd x7_2 t164) = t171 then ((backreachref14_sign.f (rd l1 x8_2)).bind fun t173 => (backreachref14_Spread.l0 k2 l0 l1 t159 (x7_2.set (t164 : Int).toNat t173) (wrap64 (x8_2 + 1)))) else (some (([] : List Int), false))) = some (r1, r2) := H
                              have A36 := Aside0.mk A360
                              clear A360
                              by_cases c37 : (rd x7_2 t164) = t171
                              · rw [if_pos c37] at H
                                have c37b0 : ((rd x7_2 t164) == t171) = true := beq_iff_eq.mpr c37
                                have c37b1 : ((rd x7_2 t164) != t171) = false := bne_eq_false_iff_eq.mpr c37
                                clear c37
                                replace H := Option.bind_eq_some_iff.mp H
                                obtain ⟨t173, A380, H⟩ := H
                                replace H : (backreachref14_Spread.l0 k2 l0 l1 t159 (x7_2.set (t164 : Int).toNat t173) (wrap64 (x8_2 + 1))) = some (r1, r2) := H
                                have A38 := Aside0.mk A380
                                clear A380
                                obtain ⟨y174, hy174⟩ : ∃ y_ : List Int, y_ = (x7_2.set (t164 : Int).toNat t173) := ⟨_, rfl⟩
                                replace H : (backreachref14_Spread.l0 k2 l0 l1 t159 y174 (wrap64 (x8_2 + 1))) = some (r1, r2) := by first | (rw [hy174]; with_reducible exact H) | (have H2_ := (Option.bind_some _ _).symm.trans H; rw [hy174]; with_reducible exact H2_) | (have H2_ := (Option.bind_some _ _).symm.trans H; with_reducible exact H2_) | with_reducible exact H | (rw [hy174]; exact H) | exact H
                                have Ny174 := Aside0.mk hy174
                                clear hy174
                                have H' := Aside0.mk H
                                clear H
                                have p163 : 0 ≤ (x8_2 : Int) := of_decide_eq_true (by first | (with_reducible assumption) | assumption)
                                have q163 : x8_2 < (l1.length : Int) := of_decide_eq_true (by first | (with_reducible assumption) | assumption)
                                obtain ⟨ad163, e163, hx163_0⟩ := Kd.at_int (Kd.V_reads' HO_1.out).2.2 x8_2 p163 q163
                                cases e163
                                replace p163 := eq_true p163
                                replace q163 := eq_true q163
                                try go_wp2_with (first | ((with_reducible refine gate_callee (f := 46) rfl ?_); refine goesL_ (some 44) rfl rfl Try.func46 (by kernel_rfl) rfl #[.int .i64 (rd l1 x8_2)] rfl (by (try simp only [List.map_toArray, List.map_cons, List.map_nil]); first | done | rfl | (simp only [List.length_drop, List.length_take]; rfl)) ?_; (with_reducible refine (backreachref14_Var.calls (rd l1 x8_2) t164 _ A26.out).mono ?_); rintro e w' ⟨rfl, ⟨nd, rfl⟩⟩; refine ⟨_, rfl, ?_⟩; (try (rw [drewN_self wr]; generalize hq_ : World.drewN wr _ = wr; have n0_ : Aside0 (Kd.V (Kd.slice 3 (Kd.int .i64)) 35 wr w.heap.size (fun k_ => ((P0_ k_ ∨ P1_ k_) ∨ w.heap.size ≤ k_) ∧ some k_ ≠ (v161 : Value).ownBlock) (.slice A0 l0.length c0) l0) := ⟨by rw [← hq_]; exact (by (with_reducible repeat (first | apply Kd.V_alloc | apply Kd.V_drewN | apply Kd.V_drew)); exact HO_0.out)⟩; have n1_ : Aside0 (Kd.V (Kd.int .i64) 3 wr w.heap.size (fun k_ => ((P0_ k_ ∨ P1_ k_) ∨ w.heap.size ≤ k_) ∧ some k_ ≠ (v161 : Value).ownBlock) (.slice (some ad163) l1.length c1) l1) := ⟨by rw [← hq_]; exact (by (with_reducible repeat (first | apply Kd.V_alloc | apply Kd.V_drewN | apply Kd.V_drew)); exact HO_1.out)⟩; have n2_ : Aside0 (Kd.R (Kd.int .i64) 3 wr w.heap.size (fun k_ => (w.heap.size ≤ k_)) v161 x7_2) := ⟨by rw [← hq_]; exact (by (with_reducible repeat (first | apply Kd.R_alloc | apply Kd.R_drewN | apply Kd.R_drew)); exact HO_7.out)⟩; have n3_ : Aside0 (Below w.heap.size w wr) := ⟨by rw [← hq_]; exact (by repeat (first | (with_reducible first | exact HB.out | apply below_alloc | apply pw_below_drewN | apply below_drew1) | exact HB.out))⟩; clear HO_0 HO_1 HO_7 HB hq_; have HO_0 := n0_; have HO_1 := n1_; have HO_7 := n2_; have HB := n3_; clear n0_ n1_ n2_ n3_))))
                                have n0_ := Aside0.mk (Kd.V_drew HO_0.out)
                                have n1_ := Aside0.mk (Kd.V_drew HO_1.out)
                                have n2_ := Aside0.mk (Kd.R_drew HO_7.out)
                                have n3_ := Aside0.mk (below_drew1 HB.out)
                                clear HO_0
                                clear HO_1
                                clear HO_7
                                clear HB
                                have HO_0 := n0_
                                have HO_1 := n1_
                                have HO_7 := n2_
                                have HB := n3_
                                clear n0_ n1_ n2_ n3_
                                obtain ⟨Ao41, co41, eo41⟩ := Kd.R_slice HO_7.out
                                (first | subst eo41 | (injection eo41 with f1_ f2_ f3_; have f4_ := f1_.symm; have f5_ := f3_.symm; clear f1_ f2_ f3_; subst f4_; subst f5_))
                                have p165 : 0 ≤ (t164 : Int) := of_decide_eq_true (by first | (with_reducible assumption) | assumption)
                                have q165 : t164 < (x7_2.length : Int) := of_decide_eq_true (by first | (with_reducible assumption) | assumption)
                                obtain ⟨ad165, e165, hx165_0⟩ := Kd.at_int (Kd.R_reads' HO_7.out).2.2 t164 p165 q165
                                cases e165
                                replace p165 := eq_true p165
                                replace q165 := eq_true q165
                                have p169 : 0 ≤ (t164 : Int) := of_decide_eq_true (by first | (with_reducible assumption) | assumption)
                                have q169 : t164 < (x7_2.length : Int) := of_decide_eq_true (by first | (with_reducible assumption) | assumption)
                                obtain ⟨ad169, e169, hx169_0⟩ := Kd.at_int (Kd.R_reads' HO_7.out).2.2 t164 p169 q169
                                obtain rfl : ad165 = ad169 := (by injection e169)
                                replace p169 := eq_true p169
                                replace q169 := eq_true q169
                                have p170 : 0 ≤ (x8_2 : Int) := of_decide_eq_true (by first | (with_reducible assumption) | assumption)
                                have q170 : x8_2 < (l1.length : Int) := of_decide_eq_true (by first | (with_reducible assumption) | assumption)
                                obtain ⟨ad170, e170, hx170_0⟩ := Kd.at_int (Kd.V_reads' HO_1.out).2.2 x8_2 p170 q170
                                obtain rfl : ad163 = ad170 := (by injection e170)
                                replace p170 := eq_true p170
                                replace q170 := eq_true q170
                                refine start_ (n := 17) (S := fun w' => w'.cell? (ad165.add (t164).toNat) = some (.int .i64 (rd x7_2 t164)) ∧ w'.cell? (ad165.add (t164).toNat) = some (.int .i64 (rd x7_2 t164)) ∧ w'.cell? (ad163.add (x8_2).toNat) = some (.int .i64 (rd l1 x8_2))) (ds := []) #[false, false, false, false, false, false, false, false, false, false, false, false, false, false, false, false, false] (by kernel_rfl) rfl rfl ⟨hx165_0, hx169_0, hx170_0⟩ (fun hHeld => ?_); refine with_tabW backreachref14_Spread.tab9 backreachref14_Spread.bits9 (fun HT_ HW_ => ?_)
                                generalize wr.drew = w40 at HO_0 HO_1 HO_7 HB hx165_0 hx169_0 hx170_0 hHeld ⊢
                                refine pure_ (i := 0) (N := some 45) (v := ?_) (a' := ?_) #[true, false, false, false, false, false, false, false, false, false, false, false, false, false, false, false, false] rfl rfl (any_of HT_.out (by kernel_rfl)) (fun _ _ _ h => h) (Or.inl ⟨by rfl, ?_⟩) ?_ ?_
                                rotate_left
                                · intro w'
                                  go_simp
                                  with_reducible rfl
                                rotate_left
                                · simp only [Act.put, List.setIfInBounds_toArray, List.set_cons_zero, List.set_cons_succ, i64_w, i32_w]
                                  rfl
                                refine pure_ (i := 1) (N := some 46) (v := ?_) (a' := ?_) #[true, true, false, false, false, false, false, false, false, false, false, false, false, false, false, false, false] rfl rfl (any_of HT_.out (by kernel_rfl)) (fun _ _ _ h => h) (Or.inl ⟨by rfl, ?_⟩) ?_ ?_
                                rotate_left
                                · intro w'
                                  go_simp
                                  with_reducible rfl
                                rotate_left
                                · simp only [Act.put, List.setIfInBounds_toArray, List.set_cons_zero, List.set_cons_succ, i64_w, i32_w]
                                  rfl
                                refine pure_ (i := 2) (N := some 47) (v := ?_) (a' := ?_) #[true, true, true, false, false, false, false, false, false, false, false, false, false, false, false, false, false] rfl rfl (any_of HT_.out (by kernel_rfl)) (fun _ _ _ h => h) (Or.inl ⟨by rfl, ?_⟩) ?_ ?_
                                rotate_left
                                · intro w'
                                  go_simp
                                  with_reducible rfl
                                rotate_left
                                · simp only [Act.put, List.setIfInBounds_toArray, List.set_cons_zero, List.set_cons_succ, i64_w, i32_w]
                                  rfl
                                refine take_ (i := 3) (N := some 48) (v := ?_) (a' := ?_) #[true, true, true, true, false, false, false, false, false, false, false, false, false, false, false, false, false] rfl rfl (take_ofW HT_.out HW_.out (by kernel_rfl)) (fun _ _ _ h => h) (Or.inl ⟨by rfl, ?_⟩) hHeld ?_ ?_
                                rotate_left
                                · rintro w' ⟨s0, s1, s2⟩
                                  go_simp
                                  with_reducible rfl
                                rotate_left
                                · simp only [Act.put, List.setIfInBounds_toArray, List.set_cons_zero, List.set_cons_succ, i64_w, i32_w]
                                  rfl
                                refine pure_ (i := 4) (N := some 49) (v := ?_) (a' := ?_) #[true, true, true, true, true, false, false, false, false, false, false, false, false, false, false, false, false] rfl rfl (any_of HT_.out (by kernel_rfl)) (fun _ _ _ h => h) (Or.inl ⟨by rfl, ?_⟩) ?_ ?_
                                rotate_left
                                · intro w'
                                  go_simp
                                  with_reducible rfl
                                rotate_left
                                · simp only [Act.put, List.setIfInBounds_toArray, List.set_cons_zero, List.set_cons_succ, i64_w, i32_w]
                                  rfl
                                refine pure_ (i := 5) (N := some 50) (v := ?_) (a' := ?_) #[true, true, true, true, true, true, false, false, false, false, false, false, false, false, false, false, false] rfl rfl (any_of HT_.out (by kernel_rfl)) (fun _ _ _ h => h) (Or.inl ⟨by rfl, ?_⟩) ?_ ?_
                                rotate_left
                                · intro w'
                                  go_simp
                                  with_reducible rfl
                                rotate_left
                                · simp only [Act.put, List.setIfInBounds_toArray, List.set_cons_zero, List.set_cons_succ, i64_w, i32_w]
                                  rfl
                                refine pure_ (i := 6) (N := some 51) (v := ?_) (a' := ?_) #[true, true, true, true, true, true, true, false, false, false, false, false, false, false, false, false, false] rfl rfl (any_of HT_.out (by kernel_rfl)) (fun _ _ _ h => h) (Or.inl ⟨by rfl, ?_⟩) ?_ ?_
                                rotate_left
                                · intro w'
                                  go_simp
                                  with_reducible rfl
                                rotate_left
                                · simp only [Act.put, List.setIfInBounds_toArray, List.set_cons_zero, List.set_cons_succ, i64_w, i32_w]
                                  rfl
                                refine pure_ (i := 7) (N := some 52) (v := ?_) (a' := ?_) #[true, true, true, true, true, true, true, true, false, false, false, false, false, false, false, false, false] rfl rfl (any_of HT_.out (by kernel_rfl)) (fun _ _ _ h => h) (Or.inl ⟨by rfl, ?_⟩) ?_ ?_
                                rotate_left
                                · intro w'
                                  go_simp
                                  with_reducible rfl
                                rotate_left
                                · simp only [Act.put, List.setIfInBounds_toArray, List.set_cons_zero, List.set_cons_succ, i64_w, i32_w]
                                  rfl
                                refine pure_ (i := 8) (N := some 53) (v := ?_) (a' := ?_) #[true, true, true, true, true, true, true, true, true, false, false, false, false, false, false, false, false] rfl rfl (any_of HT_.out (by kernel_rfl)) (fun _ _ _ h => h) (Or.inl ⟨by rfl, ?_⟩) ?_ ?_
                                rotate_left
                                · intro w'
                                  go_simp
                                  with_reducible rfl
                                rotate_left
                                · simp only [Act.put, List.setIfInBounds_toArray, List.set_cons_zero, List.set_cons_succ, i64_w, i32_w]
                                  rfl
                                refine pure_ (i := 10) (N := some 55) (v := ?_) (a' := ?_) #[true, true, true, true, true, true, true, true, true, false, true, false, false, false, false, false, false] rfl rfl (any_of HT_.out (by kernel_rfl)) (fun _ _ _ h => h) (Or.inl ⟨by rfl, ?_⟩) ?_ ?_
                                rotate_left
                                · intro w'
                                  go_simp
                                  with_reducible rfl
                                rotate_left
                                · simp only [Act.put, List.setIfInBounds_toArray, List.set_cons_zero, List.set_cons_succ, i64_w, i32_w]
                                  rfl
                                refine pure_ (i := 11) (N := some 56) (v := ?_) (a' := ?_) #[true, true, true, true, true, true, true, true, true, false, true, true, false, false, false, false, false] rfl rfl (any_of HT_.out (by kernel_rfl)) (fun _ _ _ h => h) (Or.inl ⟨by rfl, ?_⟩) ?_ ?_
                                rotate_left
                                · intro w'
                                  go_simp
                                  with_reducible rfl
                                rotate_left
                                · simp only [Act.put, List.setIfInBounds_toArray, List.set_cons_zero, List.set_cons_succ, i64_w, i32_w]
                                  rfl
                                refine pure_ (i := 12) (N := some 57) (v := ?_) (a' := ?_) #[true, true, true, true, true, true, true, true, true, false, true, true, true, false, false, false, false] rfl rfl (any_of HT_.out (by kernel_rfl)) (fun _ _ _ h => h) (Or.inl ⟨by rfl, ?_⟩) ?_ ?_
                                rotate_left
                                · intro w'
                                  go_simp
                                  with_reducible rfl
                                rotate_left
                                · simp only [Act.put, List.setIfInBounds_toArray, List.set_cons_zero, List.set_cons_succ, i64_w, i32_w]
                                  rfl
                                refine take_ (i := 9) (N := some 54) (v := ?_) (a' := ?_) #[true, true, true, true, true, true, true, true, true, true, true, true, true, false, false, false, false] rfl rfl (take_ofW HT_.out HW_.out (by kernel_rfl)) (fun _ _ _ h => h) (Or.inl ⟨by rfl, ?_⟩) hHeld ?_ ?_
                                rotate_left
                                · rintro w' ⟨s0, s1, s2⟩
                                  go_simp
                                  with_reducible rfl
                                rotate_left
                                · simp only [Act.put, List.setIfInBounds_toArray, List.set_cons_zero, List.set_cons_succ, i64_w, i32_w]
                                  rfl
                                refine take_ (i := 13) (N := some 58) (v := ?_) (a' := ?_) #[true, true, true, true, true, true, true, true, true, true, true, true, true, true, false, false, false] rfl rfl (take_ofW HT_.out HW_.out (by kernel_rfl)) (fun _ _ _ h => h) (Or.inl ⟨by rfl, ?_⟩) hHeld ?_ ?_
                                rotate_left
                                · rintro w' ⟨s0, s1, s2⟩
                                  go_simp
                                  with_reducible rfl
                                rotate_left
                                · simp only [Act.put, List.setIfInBounds_toArray, List.set_cons_zero, List.set_cons_succ, i64_w, i32_w]
                                  rfl
                                refine one_ (i := 14) (N := some 59) #[true, true, true, true, true, true, true, true, true, true, true, true, true, true, true, false, false] rfl rfl (one_of HT_.out (by kernel_rfl)) (by decide) (fun K hK => ?_)
                                refine goes_ Try.func73 (by kernel_rfl) rfl #[.int .i64 (rd l1 x8_2)] (by rfl) rfl rfl (by (try simp only [List.map_toArray, List.map_cons, List.map_nil]); first | done | rfl | (simp only [List.length_drop, List.length_take]; rfl)) ?_
                                with_reducible refine (backreachref14_sign.calls (rd l1 x8_2) t171 _ A36.out).mono ?_
                                rintro e w' ⟨rfl, ⟨nd, rfl⟩⟩
                                refine ⟨_, rfl, ?_⟩
                                refine hK.out _ _ ⟨hHeld.1, hHeld.2.1, hHeld.2.2⟩ (fun hHeld => ?_)
                                clear hK K
                                refine norm_ (a' := ?_) ?_ ?_
                                rotate_left
                                · show Act.put _ (some 59) _ = _
                                  simp only [Act.put, List.setIfInBounds_toArray, List.set_cons_zero, List.set_cons_succ, i64_w, i32_w]
                                  rfl
                                refine pure_ (i := 15) (N := some 60) (v := ?_) (a' := ?_) #[true, true, true, true, true, true, true, true, true, true, true, true, true, true, true, true, false] rfl rfl (any_of HT_.out (by kernel_rfl)) (fun _ _ _ h => h) (Or.inl ⟨by rfl, ?_⟩) ?_ ?_
                                rotate_left
                                · intro w'
                                  go_simp
                                  with_reducible rfl
                                rotate_left
                                · simp only [Act.put, List.setIfInBounds_toArray, List.set_cons_zero, List.set_cons_succ, i64_w, i32_w]
                                  rfl
                                refine pure_ (i := 16) (N := some 61) (v := ?_) (a' := ?_) #[true, true, true, true, true, true, true, true, true, true, true, true, true, true, true, true, true] rfl rfl (any_of HT_.out (by kernel_rfl)) (fun _ _ _ h => h) (Or.inl ⟨by rfl, ?_⟩) ?_ ?_
                                rotate_left
                                · intro w'
                                  go_simp
                                  with_reducible rfl
                                rotate_left
                                · simp only [Act.put, List.setIfInBounds_toArray, List.set_cons_zero, List.set_cons_succ, i64_w, i32_w]
                                  rfl
                                refine done_ (done_of HT_.out (by kernel_rfl)) ?_
                                have p172 : 0 ≤ (x8_2 : Int) := of_decide_eq_true (by first | (with_reducible assumption) | assumption)
                                have q172 : x8_2 < (l1.length : Int) := of_decide_eq_true (by first | (with_reducible assumption) | assumption)
                                obtain ⟨ad172, e172, hx172_0⟩ := Kd.at_int (Kd.V_reads' HO_1.out).2.2 x8_2 p172 q172
                                obtain rfl : ad163 = ad172 := (by injection e172)
                                replace p172 := eq_true p172
                                replace q172 := eq_true q172
                                try go_wp2_with (first | ((with_reducible refine gate_callee (f := 73) rfl ?_); refine goesL_ (some 68) rfl rfl Try.func73 (by kernel_rfl) rfl #[.int .i64 (rd l1 x8_2)] rfl (by (try simp only [List.map_toArray, List.map_cons, List.map_nil]); first | done | rfl | (simp only [List.length_drop, List.length_take]; rfl)) ?_; (with_reducible refine (backreachref14_sign.calls (rd l1 x8_2) t173 _ A38.out).mono ?_); rintro e w' ⟨rfl, ⟨nd, rfl⟩⟩; refine ⟨_, rfl, ?_⟩; (try (rw [drewN_self w40]; generalize hq_ : World.drewN w40 _ = w40; have n0_ : Aside0 (Kd.V (Kd.slice 3 (Kd.int .i64)) 35 w40 w.heap.size (fun k_ => ((P0_ k_ ∨ P1_ k_) ∨ w.heap.size ≤ k_) ∧ some k_ ≠ (.slice (some ad165) x7_2.length co41 : Value).ownBlock) (.slice A0 l0.length c0) l0) := ⟨by rw [← hq_]; exact (by (with_reducible repeat (first | apply Kd.V_alloc | apply Kd.V_drewN | apply Kd.V_drew)); exact HO_0.out)⟩; have n1_ : Aside0 (Kd.V (Kd.int .i64) 3 w40 w.heap.size (fun k_ => ((P0_ k_ ∨ P1_ k_) ∨ w.heap.size ≤ k_) ∧ some k_ ≠ (.slice (some ad165) x7_2.length co41 : Value).ownBlock) (.slice (some ad163) l1.length c1) l1) := ⟨by rw [← hq_]; exact (by (with_reducible repeat (first | apply Kd.V_alloc | apply Kd.V_drewN | apply Kd.V_drew)); exact HO_1.out)⟩; have n2_ : Aside0 (Kd.R (Kd.int .i64) 3 w40 w.heap.size (fun k_ => (w.heap.size ≤ k_)) (.slice (some ad165) x7_2.length co41) x7_2) := ⟨by rw [← hq_]; exact (by (with_reducible repeat (first | apply Kd.R_alloc | apply Kd.R_drewN | apply Kd.R_drew)); exact HO_7.out)⟩; have n3_ : Aside0 (Below w.heap.size w w40) := ⟨by rw [← hq_]; exact (by repeat (first | (with_reducible first | exact HB.out | apply below_alloc | apply pw_below_drewN | apply below_drew1) | exact HB.out))⟩; clear HO_0 HO_1 HO_7 HB hq_; have HO_0 := n0_; have HO_1 := n1_; have HO_7 := n2_; have HB := n3_; clear n0_ n1_ n2_ n3_)); have p39 : 0 ≤ (t164 : Int) := of_decide_eq_true (by first | (with_reducible assumption) | assumption); have q39 : (t164 : Int) < ((x7_2.length : Int) : Int) := of_decide_eq_true (by first | (with_reducible assumption) | assumption); obtain ⟨go39, co39, eo39, gb39, gl39, cl39, HG39⟩ := Kd.R_form HO_7.out (by omega); (first | cases eo39 | (injection eo39 with ea_ en_ ec_; (first | subst ea_ | (injection ea_ with ea_; subst ea_)); subst ec_; clear en_)); have GB39 := Aside0.mk gb39; have GG39 := Aside0.mk HG39; clear gb39 gl39 HG39; (first | simp only [add_plain] at hx165_0 | skip); (first | simp only [add_plain] at hx169_0 | skip); obtain ⟨hx39_0, hf39_0⟩ := Kd.R_celln 0 HO_7.out (t164 : Int) p39 q39; replace p39 := eq_true p39; replace q39 := eq_true q39; obtain ⟨hy42_, hz42_⟩ := Kd.R_celln 0 HO_7.out (t164 : Int) (of_decide_eq_true (by first | (with_reducible assumption) | assumption)) (of_decide_eq_true (by first | (with_reducible assumption) | assumption)); have HP42 := Kd.R_putg HO_7.out (t164 : Int) t173) | ((with_reducible refine gate_store (t := 3) (p := 69) rfl ?_); refine store_event (t := 3) (p := 69) (v := ?vo_w43) (w1 := (w40.setCell ⟨go39, (t164 : Int).toNat, none⟩ (.int .i64 t173))) ?hg ?ho ?hn ?hr ?_; (case ho => rfl); (case hg => rfl); (case hn => rfl); (case hr => first | (go_simp; done) | (go_simp; rfl)); intro w43 hw; have hg : w40.grownBy w43 (some go39) := (by rw [hw]; exact HP42.2); have hp_ : Kd.R (Kd.int .i64) 3 w43 w.heap.size (fun k_ => (w.heap.size ≤ k_)) (.slice (some ⟨go39, 0, none⟩) x7_2.length co41) y174 := (by rw [hw, Ny174.out]; exact HP42.1); clear HP42; have n0_ := Aside0.mk (Kd.V_afterv (v := (.slice (some ⟨go39, 0, none⟩) x7_2.length co41)) (v1 := (.slice (some ⟨go39, 0, none⟩) x7_2.length co41)) (ok := (fun k_ => ((P0_ k_ ∨ P1_ k_) ∨ w.heap.size ≤ k_))) (by (with_reducible repeat (first | apply Kd.V_alloc | apply Kd.V_drewN | apply Kd.V_drew)); exact HO_0.out) hg (.inl rfl)); have n1_ := Aside0.mk (Kd.V_afterv (v := (.slice (some ⟨go39, 0, none⟩) x7_2.length co41)) (v1 := (.slice (some ⟨go39, 0, none⟩) x7_2.length co41)) (ok := (fun k_ => ((P0_ k_ ∨ P1_ k_) ∨ w.heap.size ≤ k_))) (by (with_reducible repeat (first | apply Kd.V_alloc | apply Kd.V_drewN | apply Kd.V_drew)); exact HO_1.out) hg (.inl rfl)); have n2_ := Aside0.mk (hp_); have n3_ := Aside0.mk ((by rw [hw]; exact below_set (HB.out) GB39.out : Below w.heap.size w w43)); clear HO_0; clear HO_1; clear HO_7; clear HB; have HO_0 := n0_; have HO_1 := n1_; have HO_7 := n2_; have HB := n3_; clear n0_ n1_ n2_ n3_; clear hg hw hp_))
                                go_roundg k2
                                case measure => have := HJ2.out; have := HK2.out; omega
                                case rel =>
                                  have HX7 := Kd.R_drewN HO_7.out nd
                                  have HXP := Kd.R_putg HX7 (t164 : Int) t173
                                  have HXV0 := Kd.V_afterv (v := (.slice (some ⟨go39, 0, none⟩) x7_2.length co41)) (v1 := (.slice (some ⟨go39, 0, none⟩) x7_2.length co41)) (ok := (fun k_ => ((P0_ k_ ∨ P1_ k_) ∨ w.heap.size ≤ k_))) (Kd.V_drewN HO_0.out nd) HXP.2 (.inl rfl)
                                  have HXV1 := Kd.V_afterv (v := (.slice (some ⟨go39, 0, none⟩) x7_2.length co41)) (v1 := (.slice (some ⟨go39, 0, none⟩) x7_2.length co41)) (ok := (fun k_ => ((P0_ k_ ∨ P1_ k_) ∨ w.heap.size ≤ k_))) (Kd.V_drewN HO_1.out nd) HXP.2 (.inl rfl)
                                  have HXB := below_set (j := (t164 : Int).toNat) (v := .int .i64 t173) (pw_below_drewN HB.out nd) GB39.out
                                  exact ⟨(y174), (wrap64 (x8_2 + 1)), (by first | rfl | (simp; done) | (simp [*]; done)), H', ⟨by have := HJ2.out; have := HK2.out; omega⟩, ⟨HXV0⟩, ⟨HXV1⟩, ⟨by rw [Ny174.out]; exact HXP.1⟩, ⟨HXB⟩⟩
                              · rw [if_neg c37] at H
                                have c37b0 : ((rd x7_2 t164) == t171) = false := beq_eq_false_iff_ne.mpr c37
                                have c37b1 : ((rd x7_2 t164) != t171) = true := bne_iff_ne.mpr c37
                                simp only [Option.some.injEq, Prod.mk.injEq] at H
                                obtain ⟨rfl, rfl⟩ := H
                                have p163 : 0 ≤ (x8_2 : Int) := of_decide_eq_true (by first | (with_reducible assumption) | assumption)
                                have q163 : x8_2 < (l1.length : Int) := of_decide_eq_true (by first | (with_reducible assumption) | assumption)
                                obtain ⟨ad163, e163, hx163_0⟩ := Kd.at_int (Kd.V_reads' HO_1.out).2.2 x8_2 p163 q163
                                cases e163
                                replace p163 := eq_true p163
                                replace q163 := eq_true q163
                                try go_wp2_with (first | ((with_reducible refine gate_callee (f := 46) rfl ?_); refine goesL_ (some 44) rfl rfl Try.func46 (by kernel_rfl) rfl #[.int .i64 (rd l1 x8_2)] rfl (by (try simp only [List.map_toArray, List.map_cons, List.map_nil]); first | done | rfl | (simp only [List.length_drop, List.length_take]; rfl)) ?_; (with_reducible refine (backreachref14_Var.calls (rd l1 x8_2) t164 _ A26.out).mono ?_); rintro e w' ⟨rfl, ⟨nd, rfl⟩⟩; refine ⟨_, rfl, ?_⟩))
                                (try (rw [drewN_self wr]; generalize hq_ : World.drewN wr _ = wr; have n0_ : Aside0 (Kd.V (Kd.slice 3 (Kd.int .i64)) 35 wr w.heap.size (fun k_ => ((P0_ k_ ∨ P1_ k_) ∨ w.heap.size ≤ k_) ∧ some k_ ≠ (v161 : Value).ownBlock) (.slice A0 l0.length c0) l0) := ⟨by rw [← hq_]; exact (by (with_reducible repeat (first | apply Kd.V_alloc | apply Kd.V_drewN | apply Kd.V_drew)); exact HO_0.out)⟩; have n1_ : Aside0 (Kd.V (Kd.int .i64) 3 wr w.heap.size (fun k_ => ((P0_ k_ ∨ P1_ k_) ∨ w.heap.size ≤ k_) ∧ some k_ ≠ (v161 : Value).ownBlock) (.slice (some ad163) l1.length c1) l1) := ⟨by rw [← hq_]; exact (by (with_reducible repeat (first | apply Kd.V_alloc | apply Kd.V_drewN | apply Kd.V_drew)); exact HO_1.out)⟩; have n2_ : Aside0 (Kd.R (Kd.int .i64) 3 wr w.heap.size (fun k_ => (w.heap.size ≤ k_)) v161 x7_2) := ⟨by rw [← hq_]; exact (by (with_reducible repeat (first | apply Kd.R_alloc | apply Kd.R_drewN | apply Kd.R_drew)); exact HO_7.out)⟩; have n3_ : Aside0 (Below w.heap.size w wr) := ⟨by rw [← hq_]; exact (by repeat (first | (with_reducible first | exact HB.out | apply below_alloc | apply pw_below_drewN | apply below_drew1) | exact HB.out))⟩; clear HO_0 HO_1 HO_7 HB hq_; have HO_0 := n0_; have HO_1 := n1_; have HO_7 := n2_; have HB := n3_; clear n0_ n1_ n2_ n3_))
                                have n0_ := Aside0.mk (Kd.V_drew HO_0.out)
                                have n1_ := Aside0.mk (Kd.V_drew HO_1.out)
                                have n2_ := Aside0.mk (Kd.R_drew HO_7.out)
                                have n3_ := Aside0.mk (below_drew1 HB.out)
                                clear HO_0
                                clear HO_1
                                clear HO_7
                                clear HB
                                have HO_0 := n0_
                                have HO_1 := n1_
                                have HO_7 := n2_
                                have HB := n3_
                                clear n0_ n1_ n2_ n3_
                                obtain ⟨Ao45, co45, eo45⟩ := Kd.R_slice HO_7.out
                                (first | subst eo45 | (injection eo45 with f1_ f2_ f3_; have f4_ := f1_.symm; have f5_ := f3_.symm; clear f1_ f2_ f3_; subst f4_; subst f5_))
                                have p165 : 0 ≤ (t164 : Int) := of_decide_eq_true (by first | (with_reducible assumption) | assumption)
                                have q165 : t164 < (x7_2.length : Int) := of_decide_eq_true (by first | (with_reducible assumption) | assumption)
                                obtain ⟨ad165, e165, hx165_0⟩ := Kd.at_int (Kd.R_reads' HO_7.out).2.2 t164 p165 q165
                                cases e165
                                replace p165 := eq_true p165
                                replace q165 := eq_true q165
                                have p169 : 0 ≤ (t164 : Int) := of_decide_eq_true (by first | (with_reducible assumption) | assumption)
                                have q169 : t164 < (x7_2.length : Int) := of_decide_eq_true (by first | (with_reducible assumption) | assumption)
                                obtain ⟨ad169, e169, hx169_0⟩ := Kd.at_int (Kd.R_reads' HO_7.out).2.2 t164 p169 q169
                                obtain rfl : ad165 = ad169 := (by injection e169)
                                replace p169 := eq_true p169
                                replace q169 := eq_true q169
                                have p170 : 0 ≤ (x8_2 : Int) := of_decide_eq_true (by first | (with_reducible assumption) | assumption)
                                have q170 : x8_2 < (l1.length : Int) := of_decide_eq_true (by first | (with_reducible assumption) | assumption)
                                obtain ⟨ad170, e170, hx170_0⟩ := Kd.at_int (Kd.V_reads' HO_1.out).2.2 x8_2 p170 q170
                                obtain rfl : ad163 = ad170 := (by injection e170)
                                replace p170 := eq_true p170
                                replace q170 := eq_true q170
                                refine start_ (n := 17) (S := fun w' => w'.cell? (ad165.add (t164).toNat) = some (.int .i64 (rd x7_2 t164)) ∧ w'.cell? (ad165.add (t164).toNat) = some (.int .i64 (rd x7_2 t164)) ∧ w'.cell? (ad163.add (x8_2).toNat) = some (.int .i64 (rd l1 x8_2))) (ds := []) #[false, false, false, false, false, false, false, false, false, false, false, false, false, false, false, false, false] (by kernel_rfl) rfl rfl ⟨hx165_0, hx169_0, hx170_0⟩ (fun hHeld => ?_); refine with_tabW backreachref14_Spread.tab9 backreachref14_Spread.bits9 (fun HT_ HW_ => ?_)
                                generalize wr.drew = w44 at HO_0 HO_1 HO_7 HB hx165_0 hx169_0 hx170_0 hHeld ⊢
                                refine pure_ (i := 0) (N := some 45) (v := ?_) (a' := ?_) #[true, false, false, false, false, false, false, false, false, false, false, false, false, false, false, false, false] rfl rfl (any_of HT_.out (by kernel_rfl)) (fun _ _ _ h => h) (Or.inl ⟨by rfl, ?_⟩) ?_ ?_
                                rotate_left
                                · intro w'
                                  go_simp
                                  with_reducible rfl
                                rotate_left
                                · simp only [Act.put, List.setIfInBounds_toArray, List.set_cons_zero, List.set_cons_succ, i64_w, i32_w]
                                  rfl
                                refine pure_ (i := 1) (N := some 46) (v := ?_) (a' := ?_) #[true, true, false, false, false, false, false, false, false, false, false, false, false, false, false, false, false] rfl rfl (any_of HT_.out (by kernel_rfl)) (fun _ _ _ h => h) (Or.inl ⟨by rfl, ?_⟩) ?_ ?_
                                rotate_left
                                · intro w'
                                  go_simp
                                  with_reducible rfl
                                rotate_left
                                · simp only [Act.put, List.setIfInBounds_toArray, List.set_cons_zero, List.set_cons_succ, i64_w, i32_w]
                                  rfl
                                refine pure_ (i := 2) (N := some 47) (v := ?_) (a' := ?_) #[true, true, true, false, false, false, false, false, false, false, false, false, false, false, false, false, false] rfl rfl (any_of HT_.out (by kernel_rfl)) (fun _ _ _ h => h) (Or.inl ⟨by rfl, ?_⟩) ?_ ?_
                                rotate_left
                                · intro w'
                                  go_simp
                                  with_reducible rfl
                                rotate_left
                                · simp only [Act.put, List.setIfInBounds_toArray, List.set_cons_zero, List.set_cons_succ, i64_w, i32_w]
                                  rfl
                                refine take_ (i := 3) (N := some 48) (v := ?_) (a' := ?_) #[true, true, true, true, false, false, false, false, false, false, false, false, false, false, false, false, false] rfl rfl (take_ofW HT_.out HW_.out (by kernel_rfl)) (fun _ _ _ h => h) (Or.inl ⟨by rfl, ?_⟩) hHeld ?_ ?_
                                rotate_left
                                · rintro w' ⟨s0, s1, s2⟩
                                  go_simp
                                  with_reducible rfl
                                rotate_left
                                · simp only [Act.put, List.setIfInBounds_toArray, List.set_cons_zero, List.set_cons_succ, i64_w, i32_w]
                                  rfl
                                refine pure_ (i := 4) (N := some 49) (v := ?_) (a' := ?_) #[true, true, true, true, true, false, false, false, false, false, false, false, false, false, false, false, false] rfl rfl (any_of HT_.out (by kernel_rfl)) (fun _ _ _ h => h) (Or.inl ⟨by rfl, ?_⟩) ?_ ?_
                                rotate_left
                                · intro w'
                                  go_simp
                                  with_reducible rfl
                                rotate_left
                                · simp only [Act.put, List.setIfInBounds_toArray, List.set_cons_zero, List.set_cons_succ, i64_w, i32_w]
                                  rfl
                                refine pure_ (i := 5) (N := some 50) (v := ?_) (a' := ?_) #[true, true, true, true, true, true, false, false, false, false, false, false, false, false, false, false, false] rfl rfl (any_of HT_.out (by kernel_rfl)) (fun _ _ _ h => h) (Or.inl ⟨by rfl, ?_⟩) ?_ ?_
                                rotate_left
                                · intro w'
                                  go_simp
                                  with_reducible rfl
                                rotate_left
                                · simp only [Act.put, List.setIfInBounds_toArray, List.set_cons_zero, List.set_cons_succ, i64_w, i32_w]
                                  rfl
                                refine pure_ (i := 6) (N := some 51) (v := ?_) (a' := ?_) #[true, true, true, true, true, true, true, false, false, false, false, false, false, false, false, false, false] rfl rfl (any_of HT_.out (by kernel_rfl)) (fun _ _ _ h => h) (Or.inl ⟨by rfl, ?_⟩) ?_ ?_
                                rotate_left
                                · intro w'
                                  go_simp
                                  with_reducible rfl
                                rotate_left
                                · simp only [Act.put, List.setIfInBounds_toArray, List.set_cons_zero, List.set_cons_succ, i64_w, i32_w]
                                  rfl
                                refine pure_ (i := 7) (N := some 52) (v := ?_) (a' := ?_) #[true, true, true, true, true, true, true, true, false, false, false, false, false, false, false, false, false] rfl rfl (any_of HT_.out (by kernel_rfl)) (fun _ _ _ h => h) (Or.inl ⟨by rfl, ?_⟩) ?_ ?_
                                rotate_left
                                · intro w'
                                  go_simp
                                  with_reducible rfl
                                rotate_left
                                · simp only [Act.put, List.setIfInBounds_toArray, List.set_cons_zero, List.set_cons_succ, i64_w, i32_w]
                                  rfl
                                refine pure_ (i := 8) (N := some 53) (v := ?_) (a' := ?_) #[true, true, true, true, true, true, true, true, true, false, false, false, false, false, false, false, false] rfl rfl (any_of HT_.out (by kernel_rfl)) (fun _ _ _ h => h) (Or.inl ⟨by rfl, ?_⟩) ?_ ?_
                                rotate_left
                                · intro w'
                                  go_simp
                                  with_reducible rfl
                                rotate_left
                                · simp only [Act.put, List.setIfInBounds_toArray, List.set_cons_zero, List.set_cons_succ, i64_w, i32_w]
                                  rfl
                                refine pure_ (i := 10) (N := some 55) (v := ?_) (a' := ?_) #[true, true, true, true, true, true, true, true, true, false, true, false, false, false, false, false, false] rfl rfl (any_of HT_.out (by kernel_rfl)) (fun _ _ _ h => h) (Or.inl ⟨by rfl, ?_⟩) ?_ ?_
                                rotate_left
                                · intro w'
                                  go_simp
                                  with_reducible rfl
                                rotate_left
                                · simp only [Act.put, List.setIfInBounds_toArray, List.set_cons_zero, List.set_cons_succ, i64_w, i32_w]
                                  rfl
                                refine pure_ (i := 11) (N := some 56) (v := ?_) (a' := ?_) #[true, true, true, true, true, true, true, true, true, false, true, true, false, false, false, false, false] rfl rfl (any_of HT_.out (by kernel_rfl)) (fun _ _ _ h => h) (Or.inl ⟨by rfl, ?_⟩) ?_ ?_
                                rotate_left
                                · intro w'
                                  go_simp
                                  with_reducible rfl
                                rotate_left
                                · simp only [Act.put, List.setIfInBounds_toArray, List.set_cons_zero, List.set_cons_succ, i64_w, i32_w]
                                  rfl
                                refine pure_ (i := 12) (N := some 57) (v := ?_) (a' := ?_) #[true, true, true, true, true, true, true, true, true, false, true, true, true, false, false, false, false] rfl rfl (any_of HT_.out (by kernel_rfl)) (fun _ _ _ h => h) (Or.inl ⟨by rfl, ?_⟩) ?_ ?_
                                rotate_left
                                · intro w'
                                  go_simp
                                  with_reducible rfl
                                rotate_left
                                · simp only [Act.put, List.setIfInBounds_toArray, List.set_cons_zero, List.set_cons_succ, i64_w, i32_w]
                                  rfl
                                refine take_ (i := 9) (N := some 54) (v := ?_) (a' := ?_) #[true, true, true, true, true, true, true, true, true, true, true, true, true, false, false, false, false] rfl rfl (take_ofW HT_.out HW_.out (by kernel_rfl)) (fun _ _ _ h => h) (Or.inl ⟨by rfl, ?_⟩) hHeld ?_ ?_
                                rotate_left
                                · rintro w' ⟨s0, s1, s2⟩
                                  go_simp
                                  with_reducible rfl
                                rotate_left
                                · simp only [Act.put, List.setIfInBounds_toArray, List.set_cons_zero, List.set_cons_succ, i64_w, i32_w]
                                  rfl
                                refine take_ (i := 13) (N := some 58) (v := ?_) (a' := ?_) #[true, true, true, true, true, true, true, true, true, true, true, true, true, true, false, false, false] rfl rfl (take_ofW HT_.out HW_.out (by kernel_rfl)) (fun _ _ _ h => h) (Or.inl ⟨by rfl, ?_⟩) hHeld ?_ ?_
                                rotate_left
                                · rintro w' ⟨s0, s1, s2⟩
                                  go_simp
                                  with_reducible rfl
                                rotate_left
                                · simp only [Act.put, List.setIfInBounds_toArray, List.set_cons_zero, List.set_cons_succ, i64_w, i32_w]
                                  rfl
                                refine one_ (i := 14) (N := some 59) #[true, true, true, true, true, true, true, true, true, true, true, true, true, true, true, false, false] rfl rfl (one_of HT_.out (by kernel_rfl)) (by decide) (fun K hK => ?_)
                                refine goes_ Try.func73 (by kernel_rfl) rfl #[.int .i64 (rd l1 x8_2)] (by rfl) rfl rfl (by (try simp only [List.map_toArray, List.map_cons, List.map_nil]); first | done | rfl | (simp only [List.length_drop, List.length_take]; rfl)) ?_
                                with_reducible refine (backreachref14_sign.calls (rd l1 x8_2) t171 _ A36.out).mono ?_
                                rintro e w' ⟨rfl, ⟨nd, rfl⟩⟩
                                refine ⟨_, rfl, ?_⟩
                                refine hK.out _ _ ⟨hHeld.1, hHeld.2.1, hHeld.2.2⟩ (fun hHeld => ?_)
                                clear hK K
                                refine norm_ (a' := ?_) ?_ ?_
                                rotate_left
                                · show Act.put _ (some 59) _ = _
                                  simp only [Act.put, List.setIfInBounds_toArray, List.set_cons_zero, List.set_cons_succ, i64_w, i32_w]
                                  rfl
                                refine pure_ (i := 15) (N := some 60) (v := ?_) (a' := ?_) #[true, true, true, true, true, true, true, true, true, true, true, true, true, true, true, true, false] rfl rfl (any_of HT_.out (by kernel_rfl)) (fun _ _ _ h => h) (Or.inl ⟨by rfl, ?_⟩) ?_ ?_
                                rotate_left
                                · intro w'
                                  go_simp
                                  with_reducible rfl
                                rotate_left
                                · simp only [Act.put, List.setIfInBounds_toArray, List.set_cons_zero, List.set_cons_succ, i64_w, i32_w]
                                  rfl
                                refine pure_ (i := 16) (N := some 61) (v := ?_) (a' := ?_) #[true, true, true, true, true, true, true, true, true, true, true, true, true, true, true, true, true] rfl rfl (any_of HT_.out (by kernel_rfl)) (fun _ _ _ h => h) (Or.inl ⟨by rfl, ?_⟩) ?_ ?_
                                rotate_left
                                · intro w'
                                  go_simp
                                  with_reducible rfl
                                rotate_left
                                · simp only [Act.put, List.setIfInBounds_toArray, List.set_cons_zero, List.set_cons_succ, i64_w, i32_w]
                                  rfl
                                refine done_ (done_of HT_.out (by kernel_rfl)) ?_
                                try go_wp2
                                go_ret2
                                exact ⟨_, by first | rfl | (simp [errW_none, errW_some] <;> rfl) | (simp only [← hji14]; first | rfl | (simp [errW_none, errW_some] <;> rfl)) | (simp [*, errW_none, errW_some] <;> rfl), by first | exact Kd.R_nil _ _ _ _ _ | exact Kd.N_nil _ _ _ _ _ | exact Kd.V_nil _ _ _ _ _ | exact Kd.Q_nil _ _ _ _ _ | exact Kd.S_nil _ _ _ _ _, by repeat (first | (with_reducible first | exact HB.out | apply below_alloc | apply pw_below_drewN | apply below_drew1) | exact HB.out)⟩
                          · rw [if_neg c28] at H
                            exact absurd H (by simp)
                        · rw [if_neg c27] at H
                          exact absurd H (by simp)
                      · rw [if_neg c25] at H
                        exact absurd H (by simp)
                    · rw [if_neg c24] at H
                      have c24b0 : decide (x8_2 < (l1.length : Int)) = false := decide_eq_false c24
                      clear c24
                      have H' := Aside0.mk H
                      clear H
                      go_wp2
                      go_loopg [10] k2 (fun kq v10 w' => ∃ (x7_3 : List Int) (x10_3 : Bool), v10 = .bool x10_3 ∧ Aside0 (backreachref14_Spread.l1 kq l0 t159 x7_3 x10_3 = some (r1, r2)) ∧ Aside0 (kq ≤ k2) ∧ Aside0 (Kd.V (Kd.slice 3 (Kd.int .i64)) 35 w' w.heap.size (fun k_ => ((P0_ k_ ∨ P1_ k_) ∨ w.heap.size ≤ k_) ∧ some k_ ≠ (v161 : Value).ownBlock) (.slice A0 l0.length c0) l0) ∧ Aside0 (Kd.R (Kd.int .i64) 3 w' w.heap.size (fun k_ => (w.heap.size ≤ k_)) v161 x7_3) ∧ Aside0 (Below w.heap.size w w'))
                      case atStart => exact ⟨(x7_2), (true), (by first | rfl | (simp; done) | (simp [*]; done)), H', ⟨Nat.le_refl _⟩, ⟨by (with_reducible repeat (first | apply Kd.V_alloc | apply Kd.V_drewN | apply Kd.V_drew)); exact HO_0.out⟩, ⟨by (with_reducible repeat (first | apply Kd.R_alloc | apply Kd.R_drewN | apply Kd.R_drew)); exact HO_7.out⟩, ⟨by repeat (first | (with_reducible first | exact HB.out | apply below_alloc | apply pw_below_drewN | apply below_drew1) | exact HB.out)⟩⟩
                      case round =>
                        clear H'
                        try clear c1
                        try clear p1
                        try clear q1
                        try clear hx1
                        try clear c2
                        try clear p2
                        try clear c3
                        try clear p3
                        try clear q3
                        try clear hx3
                        try clear hf3
                        try clear c4
                        try clear p6
                        try clear c7
                        try clear p16
                        try clear q16
                        try clear hx16
                        try clear p17
                        try clear q17
                        try clear hx17
                        try clear c24
                        try clear c24b0
                        try clear c25
                        try clear c25b0
                        try clear c27
                        try clear c27b0
                        try clear c28
                        try clear c28b0
                        try clear c29
                        try clear c29b0
                        try clear c29b1
                        try clear p31
                        try clear q31
                        try clear hx31
                        try clear hf31
                        try clear c37
                        try clear c37b0
                        try clear c37b1
                        try clear p39
                        try clear q39
                        try clear hx39
                        try clear hf39
                        try clear hx163_0
                        try clear hx165_0
                        try clear hx166_0
                        try clear hx169_0
                        try clear hx170_0
                        try clear hx172_0
                        try clear hx31_0
                        try clear hx39_0
                        try clear p163
                        try clear p165
                        try clear p166
                        try clear p169
                        try clear p170
                        try clear p172
                        try clear p31
                        try clear p39
                        try clear q163
                        try clear q165
                        try clear q166
                        try clear q169
                        try clear q170
                        try clear q172
                        try clear q31
                        try clear q39
                        obtain ⟨x7_3, x10_3, rfl, HA, HK3, HO_0, HO_7, HB⟩ := hrel
                        cases gk with
                        | zero => exact absurd HA.out (by simp [backreachref14_Spread.l1])
                        | succ k3 =>
                          have H := HA.out
                          clear HA
                          simp only [backreachref14_Spread.l1] at H
                          by_cases c46 : x10_3 = true
                          · subst c46
                            have H1 : (backreachref14_Spread.l2 k3 l0 t159 x7_3 false 0) = some (r1, r2) := by rw [if_pos rfl] at H; exact H
                            clear H
                            have H := H1
                            clear H1
                            have H' := Aside0.mk H
                            clear H
                            go_wp2
                            go_loopg [10, 11] k3 (fun kq v10 v11 w' => ∃ (x7_4 : List Int) (x10_4 : Bool) (x11_4 : Int), v10 = .bool x10_4 ∧ v11 = .int .i64 x11_4 ∧ Aside0 (backreachref14_Spread.l2 kq l0 t159 x7_4 x10_4 x11_4 = some (r1, r2)) ∧ Aside0 (kq ≤ k3) ∧ Aside0 (Kd.V (Kd.slice 3 (Kd.int .i64)) 35 w' w.heap.size (fun k_ => ((P0_ k_ ∨ P1_ k_) ∨ w.heap.size ≤ k_) ∧ some k_ ≠ (v161 : Value).ownBlock) (.slice A0 l0.length c0) l0) ∧ Aside0 (Kd.R (Kd.int .i64) 3 w' w.heap.size (fun k_ => (w.heap.size ≤ k_)) v161 x7_4) ∧ Aside0 (Below w.heap.size w w'))
                            case atStart => exact ⟨(x7_3), (false), (0), (by first | rfl | (simp; done) | (simp [*]; done)), (by first | rfl | (simp; done) | (simp [*]; done)), H', ⟨Nat.le_refl _⟩, ⟨by (with_reducible repeat (first | apply Kd.V_alloc | apply Kd.V_drewN | apply Kd.V_drew)); exact HO_0.out⟩, ⟨by (with_reducible repeat (first | apply Kd.R_alloc | apply Kd.R_drewN | apply Kd.R_drew)); exact HO_7.out⟩, ⟨by repeat (first | (with_reducible first | exact HB.out | apply below_alloc | apply pw_below_drewN | apply below_drew1) | exact HB.out)⟩⟩
                            case round =>
                              clear H'
                              try clear c1
                              try clear p1
                              try clear q1
                              try clear hx1
                              try clear c2
                              try clear p2
                              try clear c3
                              try clear p3
                              try clear q3
                              try clear hx3
                              try clear hf3
                              try clear c4
                              try clear p6
                              try clear c7
                              try clear p16
                              try clear q16
                              try clear hx16
                              try clear p17
                              try clear q17
                              try clear hx17
                              try clear c24
                              try clear c24b0
                              try clear c25
                              try clear c25b0
                              try clear c27
                              try clear c27b0
                              try clear c28
                              try clear c28b0
                              try clear c29
                              try clear c29b0
                              try clear c29b1
                              try clear p31
                              try clear q31
                              try clear hx31
                              try clear hf31
                              try clear c37
                              try clear c37b0
                              try clear c37b1
                              try clear p39
                              try clear q39
                              try clear hx39
                              try clear hf39
                              try clear c46
                              try clear hx163_0
                              try clear hx165_0
                              try clear hx166_0
                              try clear hx169_0
                              try clear hx170_0
                              try clear hx172_0
                              try clear hx31_0
                              try clear hx39_0
                              try clear p1
                              try clear p16
                              try clear p163
                              try clear p165
                              try clear p166
                              try clear p169
                              try clear p17
                              try clear p170
                              try clear p172
                              try clear p2
                              try clear p3
                              try clear p31
                              try clear p39
                              try clear p6
                              try clear q1
                              try clear q16
                              try clear q163
                              try clear q165
                              try clear q166
                              try clear q169
                              try clear q17
                              try clear q170
                              try clear q172
                              try clear q3
                              try clear q31
                              try clear q39
                              obtain ⟨x7_4, x10_4, x11_4, rfl, rfl, HA, HK4, HO_0, HO_7, HB⟩ := hrel
                              cases gk with
                              | zero => exact absurd HA.out (by simp [backreachref14_Spread.l2])
                              | succ k4 =>
                                have H := HA.out
                                clear HA
                                simp only [backreachref14_Spread.l2] at H
                                by_cases c47 : x11_4 < (l0.length : Int)
                                · rw [if_pos c47] at H
                                  have c47b0 : decide (x11_4 < (l0.length : Int)) = true := decide_eq_true c47
                                  clear c47
                                  by_cases c48 : 0 ≤ x11_4
                                  · rw [if_pos c48] at H
                                    have c48b0 : decide (0 ≤ x11_4) = true := decide_eq_true c48
                                    clear c48
                                    replace H := Option.bind_eq_some_iff.mp H
                                    obtain ⟨t176, A490, H⟩ := H
                                    replace H : (if (t176.length : Int) = 0 then (some (([] : List Int), false)) else (if (t176.length : Int) = 1 then (if 0 < (t176.length : Int) then ((backreachref14_Var.f (rd t176 0)).bind fun t180 => (if 0 ≤ t180 then (if t180 < (x7_4.length : Int) then (backreachref14_Spread.j4 k4 l0 t159 x7_4 x10_4 x11_4 t176 ((rd x7_4 t180) == 0)) else (none)) else (none))) else (none)) else (backreachref14_Spread.j4 k4 l0 t159 x7_4 x10_4 x11_4 t176 false))) = some (r1, r2) := H
                                    have A49 := Aside0.mk A490
                                    clear A490
                                    by_cases c50 : (t176.length : Int) = 0
                                    · rw [if_pos c50] at H
                                      have c50b0 : ((t176.length : Int) == 0) = true := beq_iff_eq.mpr c50
                                      have c50b1 : ((t176.length : Int) != 0) = false := bne_eq_false_iff_eq.mpr c50
                                      clear c50
                                      simp only [Option.some.injEq, Prod.mk.injEq] at H
                                      obtain ⟨rfl, rfl⟩ := H
                                      have p175 : 0 ≤ (x11_4 : Int) := of_decide_eq_true (by first | (with_reducible assumption) | assumption)
                                      have q175 : x11_4 < (l0.length : Int) := of_decide_eq_true (by first | (with_reducible assumption) | assumption)
                                      obtain ⟨ad175, A175_0, c175_0, e175, hx175_0, hl175_0, hi175_0⟩ := at_L1 (Kd.V_reads' HO_0.out).2.2 x11_4 p175 q175
                                      cases e175
                                      obtain ⟨ce175, hce175, hMe175, hcc175⟩ := Kd.V_get HO_0.out [] x11_4 p175 (by first | exact q175 | exact of_decide_eq_true (by first | (with_reducible assumption) | assumption) | (have e_ := (Kd.V_reads' HO_0.out).1; omega))
                                      obtain ⟨ua175_0, uc175_0, rfl, ul175_0, ge175_0⟩ := Kd.FK_slice_open hMe175
                                      have hv175_0 := hcc175 0 _ rfl
                                      rw [Nat.add_zero, show ((Kd.slice 3 (Kd.int .i64))).sz = 1 from rfl, Nat.mul_one] at hv175_0
                                      replace hv175_0 := Option.some.inj (hv175_0.symm.trans hx175_0)
                                      injection hv175_0 with hva_ hvn_ hvc_
                                      rw [hva_] at ge175_0
                                      rw [hvc_] at ul175_0
                                      have HL175_0 := Aside0.mk (show Kd.V (Kd.int .i64) 3 _ w.heap.size _ _ (rd_L1 l0 x11_4) from Kd.V_mk ul175_0 ge175_0)
                                      clear hva_ hvn_ hvc_ ge175_0 ul175_0
                                      clear hcc175 hce175
                                      have HR175_0 := Aside0.mk hi175_0
                                      have HC175_0 := Aside0.mk hl175_0
                                      clear hi175_0 hl175_0
                                      replace p175 := eq_true p175
                                      replace q175 := eq_true q175
                                      obtain ⟨Ao51, co51, eo51⟩ := Kd.R_slice HO_7.out
                                      subst eo51
                                      go_wp2_with (first | ((with_reducible refine gate_callee (f := 74) rfl ?_); refine goesL_ (some 82) rfl rfl Try.func74 (by kernel_rfl) rfl #[.slice A175_0 (rd_L1 l0 x11_4).length c175_0, .slice Ao51 x7_4.length co51] rfl (by (try simp only [List.map_toArray, List.map_cons, List.map_nil]); first | done | rfl | (simp only [List.length_drop, List.length_take]; rfl)) ?_; (with_reducible refine (backreachref14_left.calls k4 _ _ (rd_L1 l0 x11_4) _ _ x7_4 t176 _ ?side1 ?side2 ?side3 ?side4 A49.out).mono ?_); (case side1 => repeat (first | exact (by repeat (first | (with_reducible exact HR175_0.out) | (with_reducible refine Kd.C_alloc ?_ _) | (with_reducible refine Kd.C_drewN ?_ _) | (with_reducible refine Kd.C_drew ?_) | exact HR175_0.out)) | (with_reducible refine Kd.C_alloc ?_ _) | (with_reducible refine Kd.C_drewN ?_ _) | (with_reducible refine Kd.C_drew ?_))); (case side2 => exact HC175_0.out); (case side3 => repeat (first | exact (Kd.R_reads' HO_7.out).2.2 | (with_reducible refine Kd.C_alloc ?_ _) | (with_reducible refine Kd.C_drewN ?_ _) | (with_reducible refine Kd.C_drew ?_))); (case side4 => exact (Kd.R_reads' HO_7.out).2.1); rintro e w52 ⟨v177, rfl, ho0, hb⟩; refine ⟨_, rfl, ?_⟩; have n0_ := Aside0.mk (Kd.V_elder' (by (with_reducible repeat (first | apply Kd.V_alloc | apply Kd.V_drewN | apply Kd.V_drew)); exact HO_0.out) (Kd.R_base ho0) hb); have n1_ := Aside0.mk (Kd.R_elder' (by (with_reducible repeat (first | apply Kd.R_alloc | apply Kd.R_drewN | apply Kd.R_drew)); exact HO_7.out) (Kd.R_base ho0) hb); have n2_ := Aside0.mk (Kd.V_elder' (by (with_reducible repeat (first | apply Kd.V_alloc | apply Kd.V_drewN | apply Kd.V_drew)); exact HL175_0.out) (Kd.R_base ho0) hb); have n3_ := Aside0.mk (Kd.R_lower (Kd.R_new' (Kd.R_newM (M := fun k_ => (w.heap.size ≤ k_)) ho0 (below_size (by repeat (first | (with_reducible first | exact HB.out | apply below_alloc | apply pw_below_drewN | apply below_drew1) | exact HB.out))) (fun k_ h_ => h_)) (Kd.R_lt (by (with_reducible repeat (first | apply Kd.R_alloc | apply Kd.R_drewN | apply Kd.R_drew)); exact HO_7.out))) (below_size (by repeat (first | (with_reducible first | exact HB.out | apply below_alloc | apply pw_below_drewN | apply below_drew1) | exact HB.out)))); have n4_ := Aside0.mk (Kd.C_below (by repeat (first | (with_reducible exact HR175_0.out) | (with_reducible refine Kd.C_alloc ?_ _) | (with_reducible refine Kd.C_drewN ?_ _) | (with_reducible refine Kd.C_drew ?_) | exact HR175_0.out)) hb); have n5_ := Aside0.mk (below_step (by repeat (first | (with_reducible first | exact HB.out | apply below_alloc | apply pw_below_drewN | apply below_drew1) | exact HB.out)) hb); clear HO_0; clear HO_7; clear HL175_0; clear HR175_0; clear HB; have HO_0 := n0_; have HO_7 := n1_; have HL175_0 := n2_; have HO178 := n3_; have HR175_0 := n4_; have HB := n5_; clear n0_ n1_ n2_ n3_ n4_ n5_; (try clear hb); (try clear hb2); (try clear hk); (try clear hi); (try clear ho0); obtain ⟨Ao53, co53, eo53⟩ := Kd.R_slice HO178.out; subst eo53))
                                      go_ret2
                                      exact ⟨_, by first | rfl | (simp [errW_none, errW_some] <;> rfl) | (simp only [← hji14]; first | rfl | (simp [errW_none, errW_some] <;> rfl)) | (simp [*, errW_none, errW_some] <;> rfl), by first | exact Kd.R_nil _ _ _ _ _ | exact Kd.N_nil _ _ _ _ _ | exact Kd.V_nil _ _ _ _ _ | exact Kd.Q_nil _ _ _ _ _ | exact Kd.S_nil _ _ _ _ _, by repeat (first | (with_reducible first | exact HB.out | apply below_alloc | apply pw_below_drewN | apply below_drew1) | exact HB.out)⟩
                                    · rw [if_neg c50] at H
                                      have c50b0 : ((t176.length : Int) == 0) = false := beq_eq_false_iff_ne.mpr c50
                                      have c50b1 : ((t176.length : Int) != 0) = true := bne_iff_ne.mpr c50
                                      have c50b2 : ¬ (t176 = []) := fun h_ => c50 (by rw [h_]; rfl)
                                      have HC54 := Aside0.mk H
                                      clear H
                                      have p175 : 0 ≤ (x11_4 : Int) := of_decide_eq_true (by first | (with_reducible assumption) | assumption)
                                      have q175 : x11_4 < (l0.length : Int) := of_decide_eq_true (by first | (with_reducible assumption) | assumption)
                                      obtain ⟨ad175, A175_0, c175_0, e175, hx175_0, hl175_0, hi175_0⟩ := at_L1 (Kd.V_reads' HO_0.out).2.2 x11_4 p175 q175
                                      cases e175
                                      obtain ⟨ce175, hce175, hMe175, hcc175⟩ := Kd.V_get HO_0.out [] x11_4 p175 (by first | exact q175 | exact of_decide_eq_true (by first | (with_reducible assumption) | assumption) | (have e_ := (Kd.V_reads' HO_0.out).1; omega))
                                      obtain ⟨ua175_0, uc175_0, rfl, ul175_0, ge175_0⟩ := Kd.FK_slice_open hMe175
                                      have hv175_0 := hcc175 0 _ rfl
                                      rw [Nat.add_zero, show ((Kd.slice 3 (Kd.int .i64))).sz = 1 from rfl, Nat.mul_one] at hv175_0
                                      replace hv175_0 := Option.some.inj (hv175_0.symm.trans hx175_0)
                                      injection hv175_0 with hva_ hvn_ hvc_
                                      rw [hva_] at ge175_0
                                      rw [hvc_] at ul175_0
                                      have HL175_0 := Aside0.mk (show Kd.V (Kd.int .i64) 3 _ w.heap.size _ _ (rd_L1 l0 x11_4) from Kd.V_mk ul175_0 ge175_0)
                                      clear hva_ hvn_ hvc_ ge175_0 ul175_0
                                      clear hcc175 hce175
                                      have HR175_0 := Aside0.mk hi175_0
                                      have HC175_0 := Aside0.mk hl175_0
                                      clear hi175_0 hl175_0
                                      replace p175 := eq_true p175
                                      replace q175 := eq_true q175
                                      obtain ⟨Ao55, co55, eo55⟩ := Kd.R_slice HO_7.out
                                      subst eo55
                                      go_upto_region 21 with (first | ((with_reducible refine gate_callee (f := 74) rfl ?_); refine goesL_ (some 82) rfl rfl Try.func74 (by kernel_rfl) rfl #[.slice A175_0 (rd_L1 l0 x11_4).length c175_0, .slice Ao55 x7_4.length co55] rfl (by (try simp only [List.map_toArray, List.map_cons, List.map_nil]); first | done | rfl | (simp only [List.length_drop, List.length_take]; rfl)) ?_; (with_reducible refine (backreachref14_left.calls k4 _ _ (rd_L1 l0 x11_4) _ _ x7_4 t176 _ ?side1 ?side2 ?side3 ?side4 A49.out).mono ?_); (case side1 => repeat (first | exact (by repeat (first | (with_reducible exact HR175_0.out) | (with_reducible refine Kd.C_alloc ?_ _) | (with_reducible refine Kd.C_drewN ?_ _) | (with_reducible refine Kd.C_drew ?_) | exact HR175_0.out)) | (with_reducible refine Kd.C_alloc ?_ _) | (with_reducible refine Kd.C_drewN ?_ _) | (with_reducible refine Kd.C_drew ?_))); (case side2 => exact HC175_0.out); (case side3 => repeat (first | exact (Kd.R_reads' HO_7.out).2.2 | (with_reducible refine Kd.C_alloc ?_ _) | (with_reducible refine Kd.C_drewN ?_ _) | (with_reducible refine Kd.C_drew ?_))); (case side4 => exact (Kd.R_reads' HO_7.out).2.1); rintro e w56 ⟨v177, rfl, ho0, hb⟩; refine ⟨_, rfl, ?_⟩; have n0_ := Aside0.mk (Kd.V_elder' (by (with_reducible repeat (first | apply Kd.V_alloc | apply Kd.V_drewN | apply Kd.V_drew)); exact HO_0.out) (Kd.R_base ho0) hb); have n1_ := Aside0.mk (Kd.R_elder' (by (with_reducible repeat (first | apply Kd.R_alloc | apply Kd.R_drewN | apply Kd.R_drew)); exact HO_7.out) (Kd.R_base ho0) hb); have n2_ := Aside0.mk (Kd.V_elder' (by (with_reducible repeat (first | apply Kd.V_alloc | apply Kd.V_drewN | apply Kd.V_drew)); exact HL175_0.out) (Kd.R_base ho0) hb); have n3_ := Aside0.mk (Kd.R_lower (Kd.R_new' (Kd.R_newM (M := fun k_ => (w.heap.size ≤ k_)) ho0 (below_size (by repeat (first | (with_reducible first | exact HB.out | apply below_alloc | apply pw_below_drewN | apply below_drew1) | exact HB.out))) (fun k_ h_ => h_)) (Kd.R_lt (by (with_reducible repeat (first | apply Kd.R_alloc | apply Kd.R_drewN | apply Kd.R_drew)); exact HO_7.out))) (below_size (by repeat (first | (with_reducible first | exact HB.out | apply below_alloc | apply pw_below_drewN | apply below_drew1) | exact HB.out)))); have n4_ := Aside0.mk (Kd.C_below (by repeat (first | (with_reducible exact HR175_0.out) | (with_reducible refine Kd.C_alloc ?_ _) | (with_reducible refine Kd.C_drewN ?_ _) | (with_reducible refine Kd.C_drew ?_) | exact HR175_0.out)) hb); have n5_ := Aside0.mk (below_step (by repeat (first | (with_reducible first | exact HB.out | apply below_alloc | apply pw_below_drewN | apply below_drew1) | exact HB.out)) hb); clear HO_0; clear HO_7; clear HL175_0; clear HR175_0; clear HB; have HO_0 := n0_; have HO_7 := n1_; have HL175_0 := n2_; have HO178 := n3_; have HR175_0 := n4_; have HB := n5_; clear n0_ n1_ n2_ n3_ n4_ n5_; (try clear hb); (try clear hb2); (try clear hk); (try clear hi); (try clear ho0); obtain ⟨Ao57, co57, eo57⟩ := Kd.R_slice HO178.out; subst eo57))
                                      (try simp only [Act.put, List.setIfInBounds_toArray, List.set_cons_zero, List.set_cons_succ])
                                      go_cut [98] (fun v98 wc => ∃ (kq : Nat) (x98_53 : Bool), v98 = .bool x98_53 ∧ Aside0 (backreachref14_Spread.j4 kq l0 t159 x7_4 x10_4 x11_4 t176 x98_53 = some (r1, r2)) ∧ Aside0 (kq ≤ k4) ∧ Aside0 (Kd.V (Kd.slice 3 (Kd.int .i64)) 35 wc w.heap.size (fun k_ => ((P0_ k_ ∨ P1_ k_) ∨ w.heap.size ≤ k_) ∧ some k_ ≠ ((.slice Ao55 x7_4.length co55) : Value).ownBlock ∧ some k_ ≠ ((.slice Ao57 t176.length co57) : Value).ownBlock) (.slice (some ad175) l0.length c0) l0) ∧ Aside0 (Kd.R (Kd.int .i64) 3 wc w.heap.size (fun k_ => (w.heap.size ≤ k_) ∧ some k_ ≠ ((.slice Ao57 t176.length co57) : Value).ownBlock) (.slice Ao55 x7_4.length co55) x7_4) ∧ Aside0 (Kd.R (Kd.int .i64) 3 wc w.heap.size (fun k_ => (w.heap.size ≤ k_) ∧ some k_ ≠ ((.slice Ao55 x7_4.length co55) : Value).ownBlock) (.slice Ao57 t176.length co57) t176) ∧ Aside0 (Kd.C (Kd.int .i64) wc A175_0 (rd_L1 l0 x11_4).length (rd_L1 l0 x11_4)) ∧ Aside0 (Below w.heap.size w wc))
                                      case first =>
                                        have H := HC54.out
                                        clear HC54
                                        by_cases c58 : (t176.length : Int) = 1
                                        · rw [if_pos c58] at H
                                          have c58b0 : ((t176.length : Int) == 1) = true := beq_iff_eq.mpr c58
                                          have c58b1 : ((t176.length : Int) != 1) = false := bne_eq_false_iff_eq.mpr c58
                                          clear c58
                                          (first | rw [c58b0] | (simp only [i64_w, i32_w]; rw [c58b0]) | skip)
                                          by_cases c59 : 0 < (t176.length : Int)
                                          · rw [if_pos c59] at H
                                            have c59b0 : decide (0 < (t176.length : Int)) = true := decide_eq_true c59
                                            have c59b1 : decide (0 < t176.length) = true := decide_eq_true (by omega)
                                            clear c59
                                            replace H := Option.bind_eq_some_iff.mp H
                                            obtain ⟨t180, A600, H⟩ := H
                                            replace H : (if 0 ≤ t180 then (if t180 < (x7_4.length : Int) then (backreachref14_Spread.j4 k4 l0 t159 x7_4 x10_4 x11_4 t176 ((rd x7_4 t180) == 0)) else (none)) else (none)) = some (r1, r2) := H
                                            have A60 := Aside0.mk A600
                                            clear A600
                                            by_cases c61 : 0 ≤ t180
                                            · rw [if_pos c61] at H
                                              have c61b0 : decide (0 ≤ t180) = true := decide_eq_true c61
                                              clear c61
                                              by_cases c62 : t180 < (x7_4.length : Int)
                                              · rw [if_pos c62] at H
                                                have c62b0 : decide (t180 < (x7_4.length : Int)) = true := decide_eq_true c62
                                                clear c62
                                                have H' := Aside0.mk H
                                                clear H
                                                have p179 : 0 ≤ (0 : Int) := (by omega)
                                                have q179 : 0 < (t176.length : Int) := of_decide_eq_true (by first | (with_reducible assumption) | assumption)
                                                obtain ⟨ad179, e179, hx179_0⟩ := Kd.at_int (Kd.R_reads' HO178.out).2.2 0 p179 q179
                                                cases e179
                                                have qi179 : (0 < t176.length) = True := eq_true (by omega)
                                                (try rw [show ((0 : Int)).toNat = 0 from rfl] at hx179_0)
                                                (try rw [Addr.add_zero'] at hx179_0)
                                                replace p179 := eq_true p179
                                                replace q179 := eq_true q179
                                                go_wp2_with (first | (go_at_call 46; (with_reducible refine (backreachref14_Var.calls (rd t176 0) t180 _ A60.out).mono ?_); rintro e w' ⟨rfl, ⟨nd, rfl⟩⟩; have p181 : 0 ≤ (t180 : Int) := of_decide_eq_true (by first | (with_reducible assumption) | assumption); have q181 : t180 < (x7_4.length : Int) := of_decide_eq_true (by first | (with_reducible assumption) | assumption); obtain ⟨ad181, e181, hx181_0⟩ := Kd.at_int (Kd.R_reads' HO_7.out).2.2 t180 p181 q181; cases e181; replace p181 := eq_true p181; replace q181 := eq_true q181))
                                                go_meet
                                                case rel => exact ⟨_, (((rd x7_4 t180) == 0)), (by first | rfl | (simp; done) | (simp [*]; done)), H', ⟨by have := HJ2.out; have := HK2.out; have := HK3.out; have := HK4.out; first | omega | exact Nat.le_refl _⟩, ⟨by (with_reducible repeat (first | apply Kd.V_alloc | apply Kd.V_drewN | apply Kd.V_drew)); exact Kd.V_mono HO_0.out (fun _ hk => ⟨hk.1.1, ⟨hk.1.2, hk.2⟩⟩)⟩, ⟨by (with_reducible repeat (first | apply Kd.R_alloc | apply Kd.R_drewN | apply Kd.R_drew)); exact HO_7.out⟩, ⟨by (with_reducible repeat (first | apply Kd.R_alloc | apply Kd.R_drewN | apply Kd.R_drew)); exact Kd.R_mono HO178.out (fun _ hk => ⟨hk.1.1, hk.2⟩)⟩, ⟨by repeat (first | (with_reducible exact HR175_0.out) | (with_reducible refine Kd.C_alloc ?_ _) | (with_reducible refine Kd.C_drewN ?_ _) | (with_reducible refine Kd.C_drew ?_) | exact HR175_0.out)⟩, ⟨by repeat (first | (with_reducible first | exact HB.out | apply below_alloc | apply pw_below_drewN | apply below_drew1) | exact HB.out)⟩⟩
                                              · rw [if_neg c62] at H
                                                exact absurd H (by simp)
                                            · rw [if_neg c61] at H
                                              exact absurd H (by simp)
                                          · rw [if_neg c59] at H
                                            exact absurd H (by simp)
                                        · rw [if_neg c58] at H
                                          have c58b0 : ((t176.length : Int) == 1) = false := beq_eq_false_iff_ne.mpr c58
                                          have c58b1 : ((t176.length : Int) != 1) = true := bne_iff_ne.mpr c58
                                          (first | rw [c58b0] | (simp only [i64_w, i32_w]; rw [c58b0]) | skip)
                                          have H' := Aside0.mk H
                                          clear H
                                          go_wp2
                                          go_meet
                                          case rel => exact ⟨_, (false), (by first | rfl | (simp; done) | (simp [*]; done)), H', ⟨by have := HJ2.out; have := HK2.out; have := HK3.out; have := HK4.out; first | omega | exact Nat.le_refl _⟩, ⟨by (with_reducible repeat (first | apply Kd.V_alloc | apply Kd.V_drewN | apply Kd.V_drew)); exact Kd.V_mono HO_0.out (fun _ hk => ⟨hk.1.1, ⟨hk.1.2, hk.2⟩⟩)⟩, ⟨by (with_reducible repeat (first | apply Kd.R_alloc | apply Kd.R_drewN | apply Kd.R_drew)); exact HO_7.out⟩, ⟨by (with_reducible repeat (first | apply Kd.R_alloc | apply Kd.R_drewN | apply Kd.R_drew)); exact Kd.R_mono HO178.out (fun _ hk => ⟨hk.1.1, hk.2⟩)⟩, ⟨by repeat (first | (with_reducible exact HR175_0.out) | (with_reducible refine Kd.C_alloc ?_ _) | (with_reducible refine Kd.C_drewN ?_ _) | (with_reducible refine Kd.C_drew ?_) | exact HR175_0.out)⟩, ⟨by repeat (first | (with_reducible first | exact HB.out | apply below_alloc | apply pw_below_drewN | apply below_drew1) | exact HB.out)⟩⟩
                                      case rest =>
                                        clear HC54
                                        try clear c1
                                        try clear p1
                                        try clear q1
                                        try clear hx1
                                        try clear qi1
                                        try clear c2
                                        try clear p2
                                        try clear c3
                                        try clear p3
                                        try clear q3
                                        try clear hx3
                                        try clear hf3
                                        try clear c4
                                        try clear c5
                                        try clear c6
                                        try clear p6
                                        try clear c7
                                        try clear p16
                                        try clear q16
                                        try clear hx16
                                        try clear c17
                                        try clear p17
                                        try clear q17
                                        try clear hx17
                                        try clear qi17
                                        try clear p18
                                        try clear q18
                                        try clear hx18
                                        try clear c24
                                        try clear c24b0
                                        try clear c25
                                        try clear c25b0
                                        try clear c27
                                        try clear c27b0
                                        try clear c28
                                        try clear c28b0
                                        try clear c29
                                        try clear c29b0
                                        try clear c29b1
                                        try clear p31
                                        try clear q31
                                        try clear hx31
                                        try clear hf31
                                        try clear c37
                                        try clear c37b0
                                        try clear c37b1
                                        try clear p39
                                        try clear q39
                                        try clear hx39
                                        try clear hf39
                                        try clear c46
                                        try clear c47
                                        try clear c47b0
                                        try clear c48
                                        try clear c48b0
                                        try clear c50
                                        try clear c50b0
                                        try clear c50b1
                                        try clear c50b2
                                        try clear c58
                                        try clear c58b0
                                        try clear c58b1
                                        try clear c59
                                        try clear c59b0
                                        try clear c59b1
                                        try clear c61
                                        try clear c61b0
                                        try clear c62
                                        try clear c62b0
                                        try clear hx163_0
                                        try clear hx165_0
                                        try clear hx166_0
                                        try clear hx169_0
                                        try clear hx170_0
                                        try clear hx172_0
                                        try clear hx175_0
                                        try clear hx179_0
                                        try clear hx181_0
                                        try clear hx31_0
                                        try clear hx39_0
                                        try clear p1
                                        try clear p16
                                        try clear p163
                                        try clear p165
                                        try clear p166
                                        try clear p169
                                        try clear p17
                                        try clear p170
                                        try clear p172
                                        try clear p175
                                        try clear p179
                                        try clear p181
                                        try clear p2
                                        try clear p3
                                        try clear p31
                                        try clear p39
                                        try clear p6
                                        try clear q1
                                        try clear q16
                                        try clear q163
                                        try clear q165
                                        try clear q166
                                        try clear q169
                                        try clear q17
                                        try clear q170
                                        try clear q172
                                        try clear q175
                                        try clear q179
                                        try clear q181
                                        try clear q3
                                        try clear q31
                                        try clear q39
                                        obtain ⟨kq, x98_53, rfl, HA, HJ53, HO_0, HO_7, HO_12, HR175_0, HB⟩ := hcut
                                        cases kq with
                                        | zero => exact absurd HA.out (by simp [backreachref14_Spread.j4])
                                        | succ kj53 =>
                                          have H := HA.out
                                          clear HA
                                          simp only [backreachref14_Spread.j4] at H
                                          by_cases c63 : x98_53 = true
                                          · subst c63
                                            have H1 : (if 0 < (t176.length : Int) then ((backreachref14_Var.f (rd t176 0)).bind fun t183 => ((backreachref14_sign.f (rd t176 0)).bind fun t185 => (if 0 ≤ t183 then (if t183 < (x7_4.length : Int) then (backreachref14_Spread.l2 kj53 l0 t159 (x7_4.set (t183 : Int).toNat t185) true (wrap64 (x11_4 + 1))) else (none)) else (none)))) else (none)) = some (r1, r2) := by rw [if_pos rfl] at H; exact H
                                            clear H
                                            have H := H1
                                            clear H1
                                            by_cases c64 : 0 < (t176.length : Int)
                                            · rw [if_pos c64] at H
                                              have c64b0 : decide (0 < (t176.length : Int)) = true := decide_eq_true c64
                                              have c64b1 : decide (0 < t176.length) = true := decide_eq_true (by omega)
                                              clear c64
                                              replace H := Option.bind_eq_some_iff.mp H
                                              obtain ⟨t183, A650, H⟩ := H
                                              replace H : ((backreachref14_sign.f (rd t176 0)).bind fun t185 => (if 0 ≤ t183 then (if t183 < (x7_4.length : Int) then (backreachref14_Spread.l2 kj53 l0 t159 (x7_4.set (t183 : Int).toNat t185) true (wrap64 (x11_4 + 1))) else (none)) else (none))) = some (r1, r2) := H
                                              have A65 := Aside0.mk A650
                                              clear A650
                                              replace H := Option.bind_eq_some_iff.mp H
                                              obtain ⟨t185, A660, H⟩ := H
                                              replace H : (if 0 ≤ t183 then (if t183 < (x7_4.length : Int) then (backreachref14_Spread.l2 kj53 l0 t159 (x7_4.set (t183 : Int).toNat t185) true (wrap64 (x11_4 + 1))) else (none)) else (none)) = some (r1, r2) := H
                                              have A66 := Aside0.mk A660
                                              clear A660
                                              by_cases c67 : 0 ≤ t183
                                              · rw [if_pos c67] at H
                                                have c67b0 : decide (0 ≤ t183) = true := decide_eq_true c67
                                                clear c67
                                                by_cases c68 : t183 < (x7_4.length : Int)
                                                · rw [if_pos c68] at H
                                                  have c68b0 : decide (t183 < (x7_4.length : Int)) = true := decide_eq_true c68
                                                  clear c68
                                                  obtain ⟨y186, hy186⟩ : ∃ y_ : List Int, y_ = (x7_4.set (t183 : Int).toNat t185) := ⟨_, rfl⟩
                                                  replace H : (backreachref14_Spread.l2 kj53 l0 t159 y186 true (wrap64 (x11_4 + 1))) = some (r1, r2) := by first | (rw [hy186]; with_reducible exact H) | (have H2_ := (Option.bind_some _ _).symm.trans H; rw [hy186]; with_reducible exact H2_) | (have H2_ := (Option.bind_some _ _).symm.trans H; with_reducible exact H2_) | with_reducible exact H | (rw [hy186]; exact H) | exact H
                                                  have Ny186 := Aside0.mk hy186
                                                  clear hy186
                                                  have H' := Aside0.mk H
                                                  clear H
                                                  try go_wp2
                                                  have n0_ := Aside0.mk (Kd.V_drew HO_0.out)
                                                  have n1_ := Aside0.mk (Kd.R_drew HO_7.out)
                                                  have n2_ := Aside0.mk (Kd.R_drew HO_12.out)
                                                  have n3_ := Aside0.mk (Kd.C_drew HR175_0.out)
                                                  have n4_ := Aside0.mk (below_drew1 HB.out)
                                                  clear HO_0
                                                  clear HO_7
                                                  clear HO_12
                                                  clear HR175_0
                                                  clear HB
                                                  have HO_0 := n0_
                                                  have HO_7 := n1_
                                                  have HO_12 := n2_
                                                  have HR175_0 := n3_
                                                  have HB := n4_
                                                  clear n0_ n1_ n2_ n3_ n4_
                                                  have p182 : 0 ≤ (0 : Int) := (by omega)
                                                  have q182 : 0 < (t176.length : Int) := of_decide_eq_true (by first | (with_reducible assumption) | assumption)
                                                  obtain ⟨ad182, e182, hx182_0⟩ := Kd.at_int (Kd.R_reads' HO_12.out).2.2 0 p182 q182
                                                  cases e182
                                                  have qi182 : (0 < t176.length) = True := eq_true (by omega)
                                                  (try rw [show ((0 : Int)).toNat = 0 from rfl] at hx182_0)
                                                  (try rw [Addr.add_zero'] at hx182_0)
                                                  replace p182 := eq_true p182
                                                  replace q182 := eq_true q182
                                                  have p184 : 0 ≤ (0 : Int) := (by omega)
                                                  have q184 : 0 < (t176.length : Int) := of_decide_eq_true (by first | (with_reducible assumption) | assumption)
                                                  obtain ⟨ad184, e184, hx184_0⟩ := Kd.at_int (Kd.R_reads' HO_12.out).2.2 0 p184 q184
                                                  obtain rfl : ad182 = ad184 := (by injection e184)
                                                  have qi184 : (0 < t176.length) = True := eq_true (by omega)
                                                  (try rw [show ((0 : Int)).toNat = 0 from rfl] at hx184_0)
                                                  (try rw [Addr.add_zero'] at hx184_0)
                                                  replace p184 := eq_true p184
                                                  replace q184 := eq_true q184
                                                  refine start_ (n := 11) (S := fun w' => w'.cell? ad182 = some (.int .i64 (rd t176 0)) ∧ w'.cell? ad182 = some (.int .i64 (rd t176 0))) (ds := [10]) #[false, false, false, false, false, false, false, false, false, false, false] (by kernel_rfl) rfl rfl ⟨hx182_0, hx184_0⟩ (fun hHeld => ?_); refine with_tabW backreachref14_Spread.tab22 backreachref14_Spread.bits22 (fun HT_ HW_ => ?_)
                                                  generalize wc.drew = w70 at HO_0 HO_7 HO_12 HR175_0 HB hx182_0 hx184_0 hHeld ⊢
                                                  refine pure_ (i := 0) (N := some 99) (v := ?_) (a' := ?_) #[true, false, false, false, false, false, false, false, false, false, false] rfl rfl (any_of HT_.out (by kernel_rfl)) (fun _ _ _ h => h) (Or.inl ⟨by rfl, ?_⟩) ?_ ?_
                                                  rotate_left
                                                  · intro w'
                                                    go_simp
                                                    with_reducible rfl
                                                  rotate_left
                                                  · simp only [Act.put, List.setIfInBounds_toArray, List.set_cons_zero, List.set_cons_succ, i64_w, i32_w]
                                                    rfl
                                                  refine pure_ (i := 1) (N := some 100) (v := ?_) (a' := ?_) #[true, true, false, false, false, false, false, false, false, false, false] rfl rfl (any_of HT_.out (by kernel_rfl)) (fun _ _ _ h => h) (Or.inl ⟨by rfl, ?_⟩) ?_ ?_
                                                  rotate_left
                                                  · intro w'
                                                    go_simp
                                                    with_reducible rfl
                                                  rotate_left
                                                  · simp only [Act.put, List.setIfInBounds_toArray, List.set_cons_zero, List.set_cons_succ, i64_w, i32_w]
                                                    rfl
                                                  refine pure_ (i := 2) (N := some 101) (v := ?_) (a' := ?_) #[true, true, true, false, false, false, false, false, false, false, false] rfl rfl (any_of HT_.out (by kernel_rfl)) (fun _ _ _ h => h) (Or.inl ⟨by rfl, ?_⟩) ?_ ?_
                                                  rotate_left
                                                  · intro w'
                                                    go_simp
                                                    with_reducible rfl
                                                  rotate_left
                                                  · simp only [Act.put, List.setIfInBounds_toArray, List.set_cons_zero, List.set_cons_succ, i64_w, i32_w]
                                                    rfl
                                                  refine pure_ (i := 5) (N := some 104) (v := ?_) (a' := ?_) #[true, true, true, false, false, true, false, false, false, false, false] rfl rfl (any_of HT_.out (by kernel_rfl)) (fun _ _ _ h => h) (Or.inl ⟨by rfl, ?_⟩) ?_ ?_
                                                  rotate_left
                                                  · intro w'
                                                    go_simp
                                                    with_reducible rfl
                                                  rotate_left
                                                  · simp only [Act.put, List.setIfInBounds_toArray, List.set_cons_zero, List.set_cons_succ, i64_w, i32_w]
                                                    rfl
                                                  refine pure_ (i := 6) (N := some 105) (v := ?_) (a' := ?_) #[true, true, true, false, false, true, true, false, false, false, false] rfl rfl (any_of HT_.out (by kernel_rfl)) (fun _ _ _ h => h) (Or.inl ⟨by rfl, ?_⟩) ?_ ?_
                                                  rotate_left
                                                  · intro w'
                                                    go_simp
                                                    with_reducible rfl
                                                  rotate_left
                                                  · simp only [Act.put, List.setIfInBounds_toArray, List.set_cons_zero, List.set_cons_succ, i64_w, i32_w]
                                                    rfl
                                                  refine take_ (i := 3) (N := some 102) (v := ?_) (a' := ?_) #[true, true, true, true, false, true, true, false, false, false, false] rfl rfl (take_ofW HT_.out HW_.out (by kernel_rfl)) (fun _ _ _ h => h) (Or.inl ⟨by rfl, ?_⟩) hHeld ?_ ?_
                                                  rotate_left
                                                  · rintro w' ⟨s0, s1⟩
                                                    go_simp
                                                    with_reducible rfl
                                                  rotate_left
                                                  · simp only [Act.put, List.setIfInBounds_toArray, List.set_cons_zero, List.set_cons_succ, i64_w, i32_w]
                                                    rfl
                                                  refine take_ (i := 7) (N := some 106) (v := ?_) (a' := ?_) #[true, true, true, true, false, true, true, true, false, false, false] rfl rfl (take_ofW HT_.out HW_.out (by kernel_rfl)) (fun _ _ _ h => h) (Or.inl ⟨by rfl, ?_⟩) hHeld ?_ ?_
                                                  rotate_left
                                                  · rintro w' ⟨s0, s1⟩
                                                    go_simp
                                                    with_reducible rfl
                                                  rotate_left
                                                  · simp only [Act.put, List.setIfInBounds_toArray, List.set_cons_zero, List.set_cons_succ, i64_w, i32_w]
                                                    rfl
                                                  refine one_ (i := 4) (N := some 103) #[true, true, true, true, true, true, true, true, false, false, false] rfl rfl (one_of HT_.out (by kernel_rfl)) (by decide) (fun K hK => ?_)
                                                  refine goes_ Try.func46 (by kernel_rfl) rfl #[.int .i64 (rd t176 0)] (by rfl) rfl rfl (by (try simp only [List.map_toArray, List.map_cons, List.map_nil]); first | done | rfl | (simp only [List.length_drop, List.length_take]; rfl)) ?_
                                                  with_reducible refine (backreachref14_Var.calls (rd t176 0) t183 _ A65.out).mono ?_
                                                  rintro e w' ⟨rfl, ⟨nd, rfl⟩⟩
                                                  refine ⟨_, rfl, ?_⟩
                                                  refine hK.out _ _ ⟨hHeld.1, hHeld.2⟩ (fun hHeld => ?_)
                                                  clear hK K
                                                  refine norm_ (a' := ?_) ?_ ?_
                                                  rotate_left
                                                  · show Act.put _ (some 103) _ = _
                                                    simp only [Act.put, List.setIfInBounds_toArray, List.set_cons_zero, List.set_cons_succ, i64_w, i32_w]
                                                    rfl
                                                  refine one_ (i := 8) (N := some 107) #[true, true, true, true, true, true, true, true, true, false, false] rfl rfl (one_of HT_.out (by kernel_rfl)) (by decide) (fun K hK => ?_)
                                                  refine goes_ Try.func73 (by kernel_rfl) rfl #[.int .i64 (rd t176 0)] (by rfl) rfl rfl (by (try simp only [List.map_toArray, List.map_cons, List.map_nil]); first | done | rfl | (simp only [List.length_drop, List.length_take]; rfl)) ?_
                                                  with_reducible refine (backreachref14_sign.calls (rd t176 0) t185 _ A66.out).mono ?_
                                                  rintro e w' ⟨rfl, ⟨nd, rfl⟩⟩
                                                  refine ⟨_, rfl, ?_⟩
                                                  have p69 : 0 ≤ (t183 : Int) := of_decide_eq_true (by first | (with_reducible assumption) | assumption)
                                                  have q69 : (t183 : Int) < ((x7_4.length : Int) : Int) := of_decide_eq_true (by first | (with_reducible assumption) | assumption)
                                                  obtain ⟨go69, co69, eo69, gb69, gl69, cl69, HG69⟩ := Kd.R_form HO_7.out (by omega)
                                                  (first | cases eo69 | (injection eo69 with ea_ en_ ec_; (first | subst ea_ | (injection ea_ with ea_; subst ea_)); subst ec_; clear en_))
                                                  have GB69 := Aside0.mk gb69
                                                  have GG69 := Aside0.mk HG69
                                                  clear gb69 gl69 HG69
                                                  obtain ⟨hx69_0, hf69_0⟩ := Kd.R_celln 0 HO_7.out (t183 : Int) p69 q69
                                                  replace p69 := eq_true p69
                                                  replace q69 := eq_true q69
                                                  have HP71 := Kd.R_putn HO_7.out (t183 : Int) t185
                                                  rw [← Ny186.out] at HP71
                                                  have HQ71 := Aside0.mk HP71
                                                  clear HP71
                                                  refine hK.out _ _ ⟨hHeld.1, hHeld.2⟩ (fun hHeld => ?_)
                                                  clear hK K
                                                  refine norm_ (a' := ?_) ?_ ?_
                                                  rotate_left
                                                  · show Act.put _ (some 107) _ = _
                                                    simp only [Act.put, List.setIfInBounds_toArray, List.set_cons_zero, List.set_cons_succ, i64_w, i32_w]
                                                    rfl
                                                  refine pure_ (i := 9) (N := some 108) (v := ?_) (a' := ?_) #[true, true, true, true, true, true, true, true, true, true, false] rfl rfl (any_of HT_.out (by kernel_rfl)) (fun _ _ _ h => h) (Or.inl ⟨by rfl, ?_⟩) ?_ ?_
                                                  rotate_left
                                                  · intro w'
                                                    go_simp
                                                    with_reducible rfl
                                                  rotate_left
                                                  · simp only [Act.put, List.setIfInBounds_toArray, List.set_cons_zero, List.set_cons_succ, i64_w, i32_w]
                                                    rfl
                                                  refine last_ (i := 10) (N := none) #[true, true, true, true, true, true, true, true, true, true, true] rfl rfl (one_of HT_.out (by kernel_rfl)) (by decide) (fun K hK => ?_)
                                                  refine skip_ (w1 := ?_) (by rfl) rfl ?_ ?_
                                                  rotate_left
                                                  · go_simp
                                                    rfl
                                                  refine hK.out _ _ ?_
                                                  clear hK K
                                                  refine done_ (done_of HT_.out (by kernel_rfl)) ?_
                                                  try go_wp2
                                                  go_roundg kj53
                                                  case measure => have := HJ2.out; have := HK2.out; have := HK3.out; have := HK4.out; have := HJ53.out; omega
                                                  case rel => exact ⟨(y186), (true), (wrap64 (x11_4 + 1)), (by first | rfl | (simp; done) | (simp [*]; done)), (by first | rfl | (simp; done) | (simp [*]; done)), H', ⟨by have := HJ2.out; have := HK2.out; have := HK3.out; have := HK4.out; have := HJ53.out; omega⟩, ⟨by (with_reducible repeat (first | apply Kd.V_alloc | apply Kd.V_drewN | apply Kd.V_drew)); exact Kd.V_mono (Kd.V_far (p := ⟨go69, (t183 : Int).toNat, none⟩) (Kd.V_mono HO_0.out (fun k_ hk => (⟨hk, fun e_ => hk.2.1 (by rw [e_]; rfl)⟩ : _ ∧ k_ ≠ go69))) (fun _ hk => hk.2) (.int .i64 t185)) (fun _ hk => ⟨hk.1.1, hk.1.2.1⟩)⟩, ⟨by (with_reducible repeat (first | apply Kd.R_alloc | apply Kd.R_drewN | apply Kd.R_drew)); exact Kd.R_mono HQ71.out (fun _ hk => hk.1)⟩, ⟨by repeat (first | (with_reducible first | exact HB.out | apply below_alloc | apply pw_below_drewN | apply below_drew1 | refine below_set ?_ GB69.out) | exact HB.out)⟩⟩
                                                · rw [if_neg c68] at H
                                                  exact absurd H (by simp)
                                              · rw [if_neg c67] at H
                                                exact absurd H (by simp)
                                            · rw [if_neg c64] at H
                                              exact absurd H (by simp)
                                          · replace c63 := Bool.eq_false_iff.mpr c63
                                            subst c63
                                            have H1 : (backreachref14_Spread.l2 kj53 l0 t159 x7_4 x10_4 (wrap64 (x11_4 + 1))) = some (r1, r2) := by rw [if_neg (show ¬ (false = true) by decide)] at H; exact H
                                            clear H
                                            have H := H1
                                            clear H1
                                            have H' := Aside0.mk H
                                            clear H
                                            go_wp2
                                            go_roundg kj53
                                            case measure => have := HJ2.out; have := HK2.out; have := HK3.out; have := HK4.out; have := HJ53.out; omega
                                            case rel => exact ⟨(x7_4), (x10_4), (wrap64 (x11_4 + 1)), (by first | rfl | (simp; done) | (simp [*]; done)), (by first | rfl | (simp; done) | (simp [*]; done)), H', ⟨by have := HJ2.out; have := HK2.out; have := HK3.out; have := HK4.out; have := HJ53.out; omega⟩, ⟨by (with_reducible repeat (first | apply Kd.V_alloc | apply Kd.V_drewN | apply Kd.V_drew)); exact Kd.V_mono HO_0.out (fun _ hk => ⟨hk.1, hk.2.1⟩)⟩, ⟨by (with_reducible repeat (first | apply Kd.R_alloc | apply Kd.R_drewN | apply Kd.R_drew)); exact Kd.R_mono HO_7.out (fun _ hk => hk.1)⟩, ⟨by repeat (first | (with_reducible first | exact HB.out | apply below_alloc | apply pw_below_drewN | apply below_drew1) | exact HB.out)⟩⟩
                                  · rw [if_neg c48] at H
                                    exact absurd H (by simp)
                                · rw [if_neg c47] at H
                                  have c47b0 : decide (x11_4 < (l0.length : Int)) = false := decide_eq_false c47
                                  clear c47
                                  have H' := Aside0.mk H
                                  clear H
                                  go_wp2
                                  go_roundg k4
                                  case measure => have := HJ2.out; have := HK2.out; have := HK3.out; have := HK4.out; omega
                                  case rel => exact ⟨(x7_4), (x10_4), (by first | rfl | (simp; done) | (simp [*]; done)), H', ⟨by have := HJ2.out; have := HK2.out; have := HK3.out; have := HK4.out; omega⟩, ⟨by (with_reducible repeat (first | apply Kd.V_alloc | apply Kd.V_drewN | apply Kd.V_drew)); exact HO_0.out⟩, ⟨by (with_reducible repeat (first | apply Kd.R_alloc | apply Kd.R_drewN | apply Kd.R_drew)); exact HO_7.out⟩, ⟨by repeat (first | (with_reducible first | exact HB.out | apply below_alloc | apply pw_below_drewN | apply below_drew1) | exact HB.out)⟩⟩
                          · replace c46 := Bool.eq_false_iff.mpr c46
                            subst c46
                            have H1 : (backreachref14_Spread.l3 k3 t159 x7_3 ([] : List Int) 1) = some (r1, r2) := by rw [if_neg (show ¬ (false = true) by decide)] at H; exact H
                            clear H
                            have H := H1
                            clear H1
                            have H' := Aside0.mk H
                            clear H
                            go_wp2
                            go_loopg [13, 14] k3 (fun kq v13 v14 w' => ∃ (x13_4 : List Int) (x14_4 : Int), v14 = .int .i64 x14_4 ∧ Aside0 (backreachref14_Spread.l3 kq t159 x7_3 x13_4 x14_4 = some (r1, r2)) ∧ Aside0 (kq ≤ k3) ∧ Aside0 (Kd.R (Kd.int .i64) 3 w' w.heap.size (fun k_ => (w.heap.size ≤ k_) ∧ some k_ ≠ (v13 : Value).ownBlock) v161 x7_3) ∧ Aside0 (Kd.R (Kd.int .i64) 3 w' w.heap.size (fun k_ => (w.heap.size ≤ k_) ∧ some k_ ≠ (v161 : Value).ownBlock) v13 x13_4) ∧ Aside0 (Below w.heap.size w w'))
                            case atStart => exact ⟨(([] : List Int)), (1), (by first | rfl | (simp; done) | (simp [*]; done)), H', ⟨Nat.le_refl _⟩, ⟨by (with_reducible repeat (first | apply Kd.R_alloc | apply Kd.R_drewN | apply Kd.R_drew)); exact Kd.R_mono HO_7.out (fun _ hk => ⟨hk, (by simp [Value.ownBlock])⟩)⟩, ⟨by first | exact Kd.R_nil _ _ _ _ _ | exact Kd.N_nil _ _ _ _ _ | exact Kd.V_nil _ _ _ _ _ | exact Kd.Q_nil _ _ _ _ _ | exact Kd.S_nil _ _ _ _ _⟩, ⟨by repeat (first | (with_reducible first | exact HB.out | apply below_alloc | apply pw_below_drewN | apply below_drew1) | exact HB.out)⟩⟩
                            case round =>
                              clear H'
                              try clear c1
                              try clear p1
                              try clear q1
                              try clear hx1
                              try clear qi1
                              try clear c2
                              try clear p2
                              try clear c3
                              try clear p3
                              try clear q3
                              try clear hx3
                              try clear hf3
                              try clear c4
                              try clear c5
                              try clear c6
                              try clear p6
                              try clear q6
                              try clear hx6
                              try clear hf6
                              try clear c7
                              try clear p16
                              try clear q16
                              try clear hx16
                              try clear c17
                              try clear p17
                              try clear q17
                              try clear hx17
                              try clear qi17
                              try clear p18
                              try clear q18
                              try clear hx18
                              try clear qi18
                              try clear c24
                              try clear c24b0
                              try clear c25
                              try clear c25b0
                              try clear c27
                              try clear c27b0
                              try clear c28
                              try clear c28b0
                              try clear c29
                              try clear c29b0
                              try clear c29b1
                              try clear p31
                              try clear q31
                              try clear hx31
                              try clear hf31
                              try clear c37
                              try clear c37b0
                              try clear c37b1
                              try clear p39
                              try clear q39
                              try clear hx39
                              try clear hf39
                              try clear c46
                              try clear c47
                              try clear c47b0
                              try clear c48
                              try clear c48b0
                              try clear c50
                              try clear c50b0
                              try clear c50b1
                              try clear c50b2
                              try clear c58
                              try clear c58b0
                              try clear c58b1
                              try clear c59
                              try clear c59b0
                              try clear c59b1
                              try clear c61
                              try clear c61b0
                              try clear c62
                              try clear c62b0
                              try clear c63
                              try clear c64
                              try clear c64b0
                              try clear c64b1
                              try clear p64
                              try clear c67
                              try clear c67b0
                              try clear c68
                              try clear c68b0
                              try clear p69
                              try clear q69
                              try clear hx69
                              try clear hf69
                              try clear hx163_0
                              try clear hx165_0
                              try clear hx166_0
                              try clear hx169_0
                              try clear hx170_0
                              try clear hx172_0
                              try clear hx175_0
                              try clear hx179_0
                              try clear hx181_0
                              try clear hx182_0
                              try clear hx184_0
                              try clear hx31_0
                              try clear hx39_0
                              try clear hx69_0
                              try clear p1
                              try clear p16
                              try clear p163
                              try clear p165
                              try clear p166
                              try clear p169
                              try clear p17
                              try clear p170
                              try clear p172
                              try clear p175
                              try clear p179
                              try clear p18
                              try clear p181
                              try clear p182
                              try clear p184
                              try clear p2
                              try clear p3
                              try clear p31
                              try clear p39
                              try clear p6
                              try clear p69
                              try clear q1
                              try clear q16
                              try clear q163
                              try clear q165
                              try clear q166
                              try clear q169
                              try clear q17
                              try clear q170
                              try clear q172
                              try clear q175
                              try clear q179
                              try clear q18
                              try clear q181
                              try clear q182
                              try clear q184
                              try clear q3
                              try clear q31
                              try clear q39
                              try clear q69
                              obtain ⟨x13_4, x14_4, rfl, HA, HK4, HO_7, HO_13, HB⟩ := hrel
                              cases gk with
                              | zero => exact absurd HA.out (by simp [backreachref14_Spread.l3])
                              | succ k4 =>
                                have H := HA.out
                                clear HA
                                simp only [backreachref14_Spread.l3] at H
                                by_cases c72 : x14_4 ≤ t159
                                · rw [if_pos c72] at H
                                  have c72b0 : decide (x14_4 ≤ t159) = true := decide_eq_true c72
                                  clear c72
                                  by_cases c73 : 0 ≤ x14_4
                                  · rw [if_pos c73] at H
                                    have c73b0 : decide (0 ≤ x14_4) = true := decide_eq_true c73
                                    clear c73
                                    by_cases c74 : x14_4 < (x7_3.length : Int)
                                    · rw [if_pos c74] at H
                                      have c74b0 : decide (x14_4 < (x7_3.length : Int)) = true := decide_eq_true c74
                                      clear c74
                                      by_cases c75 : (rd x7_3 x14_4) = 0
                                      · rw [if_pos c75] at H
                                        have c75b0 : ((rd x7_3 x14_4) == 0) = true := beq_iff_eq.mpr c75
                                        have c75b1 : ((rd x7_3 x14_4) != 0) = false := bne_eq_false_iff_eq.mpr c75
                                        clear c75
                                        have H' := Aside0.mk H
                                        clear H
                                        obtain ⟨Ao76, co76, eo76⟩ := Kd.R_slice HO_7.out
                                        subst eo76
                                        have p187 : 0 ≤ (x14_4 : Int) := of_decide_eq_true (by first | (with_reducible assumption) | assumption)
                                        have q187 : x14_4 < (x7_3.length : Int) := of_decide_eq_true (by first | (with_reducible assumption) | assumption)
                                        obtain ⟨ad187, e187, hx187_0⟩ := Kd.at_int (Kd.R_reads' HO_7.out).2.2 x14_4 p187 q187
                                        cases e187
                                        replace p187 := eq_true p187
                                        replace q187 := eq_true q187
                                        go_wp2
                                        go_roundg k4
                                        case measure => have := HJ2.out; have := HK2.out; have := HK3.out; have := HK4.out; omega
                                        case rel => exact ⟨(x13_4), (wrap64 (x14_4 + 1)), (by first | rfl | (simp; done) | (simp [*]; done)), H', ⟨by have := HJ2.out; have := HK2.out; have := HK3.out; have := HK4.out; omega⟩, ⟨by (with_reducible repeat (first | apply Kd.R_alloc | apply Kd.R_drewN | apply Kd.R_drew)); exact HO_7.out⟩, ⟨by (with_reducible repeat (first | apply Kd.R_alloc | apply Kd.R_drewN | apply Kd.R_drew)); exact HO_13.out⟩, ⟨by repeat (first | (with_reducible first | exact HB.out | apply below_alloc | apply pw_below_drewN | apply below_drew1) | exact HB.out)⟩⟩
                                      · rw [if_neg c75] at H
                                        have c75b0 : ((rd x7_3 x14_4) == 0) = false := beq_eq_false_iff_ne.mpr c75
                                        have c75b1 : ((rd x7_3 x14_4) != 0) = true := bne_iff_ne.mpr c75
                                        by_cases c77 : x13_4.length < 17592186044416
                                        · rw [if_pos c77] at H
                                          have LMc77 := Aside0.mk c77
                                          clear c77
                                          obtain ⟨y189, hy189⟩ : ∃ y_ : List Int, y_ = (x13_4 ++ [wrap64 ((rd x7_3 x14_4) * x14_4)]) := ⟨_, rfl⟩
                                          replace H : (backreachref14_Spread.l3 k4 t159 x7_3 y189 (wrap64 (x14_4 + 1))) = some (r1, r2) := by first | (rw [hy189]; with_reducible exact H) | (have H2_ := (Option.bind_some _ _).symm.trans H; rw [hy189]; with_reducible exact H2_) | (have H2_ := (Option.bind_some _ _).symm.trans H; with_reducible exact H2_) | with_reducible exact H | (rw [hy189]; exact H) | exact H
                                          have Ny189 := Aside0.mk hy189
                                          clear hy189
                                          have H' := Aside0.mk H
                                          clear H
                                          obtain ⟨Ao78, co78, eo78⟩ := Kd.R_slice HO_7.out
                                          subst eo78
                                          have p187 : 0 ≤ (x14_4 : Int) := of_decide_eq_true (by first | (with_reducible assumption) | assumption)
                                          have q187 : x14_4 < (x7_3.length : Int) := of_decide_eq_true (by first | (with_reducible assumption) | assumption)
                                          obtain ⟨ad187, e187, hx187_0⟩ := Kd.at_int (Kd.R_reads' HO_7.out).2.2 x14_4 p187 q187
                                          cases e187
                                          replace p187 := eq_true p187
                                          replace q187 := eq_true q187
                                          have p188 : 0 ≤ (x14_4 : Int) := of_decide_eq_true (by first | (with_reducible assumption) | assumption)
                                          have q188 : x14_4 < (x7_3.length : Int) := of_decide_eq_true (by first | (with_reducible assumption) | assumption)
                                          obtain ⟨ad188, e188, hx188_0⟩ := Kd.at_int (Kd.R_reads' HO_7.out).2.2 x14_4 p188 q188
                                          obtain rfl : ad187 = ad188 := (by injection e188)
                                          replace p188 := eq_true p188
                                          replace q188 := eq_true q188
                                          go_wp2_with (first | ((with_reducible refine gate_builtin (b := .append) (xs := #[.tmp 119, .tmp 126]) rfl ?_); (try (refine gate_guard (by rfl) ?_; dsimp only)); at_builtin; refine Kd.R_append (Kd.int .i64) (w0 := w) w.heap.size rfl (.tmp 119) (.tmp 126) 35 3 (.int .i64 0) 8 rfl Try.underlying35 info3 rfl (by decide) (by omega) u13 x13_4 (wrap64 ((rd x7_3 x14_4) * x14_4)) [.int .i64 (wrap64 ((rd x7_3 x14_4) * x14_4))] (fun k_ => (w.heap.size ≤ k_) ∧ some k_ ≠ (.slice (some ad187) x7_3.length co78 : Value).ownBlock) (fun _ => False) rfl rfl ?aP (fun _ hk => hk.elim) ?aF ?aO ?aB ?aS ?aL ?_; (case aP => exact rfl); (case aB => exact (by repeat (first | (with_reducible first | exact HB.out | apply below_alloc | apply pw_below_drewN | apply below_drew1) | exact HB.out))); (case aF => exact (fun k_ hk => ⟨(Nat.le_trans (below_size (by repeat (first | (with_reducible first | exact HB.out | apply below_alloc | apply pw_below_drewN | apply below_drew1) | exact HB.out))) hk), Kd.fresh' (Kd.R_lt (by (with_reducible repeat (first | apply Kd.R_alloc | apply Kd.R_drewN | apply Kd.R_drew)); exact HO_7.out)) k_ hk⟩)); (case aO => exact (by (with_reducible repeat (first | apply Kd.R_alloc | apply Kd.R_drewN | apply Kd.R_drew)); exact HO_13.out)); (case aS => exact (below_size (by repeat (first | (with_reducible first | exact HB.out | apply below_alloc | apply pw_below_drewN | apply below_drew1) | exact HB.out)))); (case aL => have := LMc77.out; omega); intro v190 w79 ho hb hg hat; rw [← Ny189.out] at ho; have n0_ := Aside0.mk (Kd.R_after (ok := (fun k_ => (w.heap.size ≤ k_))) (by (with_reducible repeat (first | apply Kd.R_alloc | apply Kd.R_drewN | apply Kd.R_drew)); exact HO_7.out) hg hat); have n1_ := Aside0.mk (hb); have n2_ := Aside0.mk (ho); clear HO_7; clear HB; clear HO_13; have HO_7 := n0_; have HB := n1_; have HO191 := n2_; clear n0_ n1_ n2_; clear ho hb hg hat))
                                          go_roundg k4
                                          case measure => have := HJ2.out; have := HK2.out; have := HK3.out; have := HK4.out; omega
                                          case rel => exact ⟨(y189), (wrap64 (x14_4 + 1)), (by first | rfl | (simp; done) | (simp [*]; done)), H', ⟨by have := HJ2.out; have := HK2.out; have := HK3.out; have := HK4.out; omega⟩, ⟨by (with_reducible repeat (first | apply Kd.R_alloc | apply Kd.R_drewN | apply Kd.R_drew)); exact HO_7.out⟩, ⟨by (with_reducible repeat (first | apply Kd.R_alloc | apply Kd.R_drewN | apply Kd.R_drew)); exact HO191.out⟩, ⟨by repeat (first | (with_reducible first | exact HB.out | apply below_alloc | apply pw_below_drewN | apply below_drew1) | exact HB.out)⟩⟩
                                        · rw [if_neg c77] at H
                                          exact absurd H (by simp)
                                    · rw [if_neg c74] at H
                                      exact absurd H (by simp)
                                  · rw [if_neg c73] at H
                                    exact absurd H (by simp)
                                · rw [if_neg c72] at H
                                  have c72b0 : decide (x14_4 ≤ t159) = false := decide_eq_false c72
                                  clear c72
                                  simp only [Option.some.injEq, Prod.mk.injEq] at H
                                  obtain ⟨rfl, rfl⟩ := H
                                  go_wp2
                                  go_ret2
                                  exact ⟨_, by first | rfl | (simp [errW_none, errW_some] <;> rfl) | (simp only [← hji14]; first | rfl | (simp [errW_none, errW_some] <;> rfl)) | (simp [*, errW_none, errW_some] <;> rfl), by (with_reducible repeat (first | apply Kd.R_alloc | apply Kd.R_drewN | apply Kd.R_drew)); exact Kd.R_mono HO_13.out (fun _ hk => hk.1), by repeat (first | (with_reducible first | exact HB.out | apply below_alloc | apply pw_below_drewN | apply below_drew1) | exact HB.out)⟩
              · rw [if_neg c16] at H
                exact absurd H (by simp)
            · rw [if_neg c15] at H
              exact absurd H (by simp)
          · rw [if_neg c12] at H
            exact absurd H (by simp)
        · rw [if_neg c11] at H
          exact absurd H (by simp)

end Go.Proofs.Ytphloehjcfipfaa.X
end

section
/- What spreads from literals in clauses: the plain law, without a program: what follows clause by clause, a function that computes it, and that they are one. -/
namespace Go.Proofs.Ytphloehjcfipfaa.Cl

def litOk (x : Int) : Bool := x != 0 && (decide (-1048576 ≤ x) && decide (x ≤ 1048576))
def cRight (c : List Int) : Bool := c.all litOk
def lRight (l : List (List Int)) : Bool := l.all cRight

/-- A set of literals that is closed under clauses of one literal left. -/
def Closed (l : List (List Int)) (S : Int → Prop) : Prop := ∀ c ∈ l, ∀ x ∈ c, (∀ y ∈ c, y ≠ x → S (-y)) → S x
/-- What follows. -/
def Der (l : List (List Int)) (fr : List Int) (x : Int) : Prop := ∀ S : Int → Prop, (∀ z ∈ fr, S z) → Closed l S → S x
def Fails (l : List (List Int)) (fr : List Int) : Prop := (∃ x, Der l fr x ∧ Der l fr (-x)) ∨ ∃ c ∈ l, ∀ y ∈ c, Der l fr (-y)

theorem Der.of_from {l : List (List Int)} {fr : List Int} {x : Int} (h : x ∈ fr) : Der l fr x := fun _ hf _ => hf x h
theorem Der.unit {l : List (List Int)} {fr : List Int} {c : List Int} {x : Int} (hc : c ∈ l) (hx : x ∈ c) (h : ∀ y ∈ c, y ≠ x → Der l fr (-y)) : Der l fr x :=
  fun S hf hS => hS c hc x hx fun y hy hne => h y hy hne S hf hS

/-! ### A function that computes it -/
def hold1 (S : List Int) (x : Int) : Option (List Int) := if S.contains (-x) then none else if S.contains x then some S else some (x :: S)
def start : List Int → List Int → Option (List Int)
  | [], S => some S
  | x :: fr, S => (hold1 S x).bind (start fr)
def unitStep (S : List Int) (c : List Int) : Option (List Int) :=
  match c.filter (fun x => !S.contains (-x)) with
  | [] => none
  | x :: r => if r.all (· == x) && !S.contains x then some (x :: S) else some S
def pass : List (List Int) → List Int → Option (List Int)
  | [], S => some S
  | c :: l, S => (unitStep S c).bind (pass l)
def iter : Nat → List (List Int) → List Int → Option (List Int)
  | 0, _, S => some S
  | n + 1, l, S => (pass l S).bind fun S' => if S'.length = S.length then some S' else iter n l S'
def ins (x : Int) : List Int → List Int
  | [] => [x]
  | y :: r => if x.natAbs ≤ y.natAbs then x :: y :: r else y :: ins x r
def isort : List Int → List Int
  | [] => []
  | x :: r => ins x (isort r)
def total (l : List (List Int)) : Nat := (l.map List.length).foldr (· + ·) 0
def spread (l : List (List Int)) (fr : List Int) : List Int × Bool :=
  if lRight l && cRight fr then
    match start fr [] with
    | none => ([], false)
    | some S => match iter (total l + 1) l S with
      | none => ([], false)
      | some S => (isort S, true)
  else ([], false)

/-! ### Sorting by the variable -/
def Up (l : List Int) : Prop := l.Pairwise fun a b => a.natAbs < b.natAbs
theorem mem_ins (x z : Int) : ∀ l, z ∈ ins x l ↔ z = x ∨ z ∈ l
  | [] => by simp [ins]
  | y :: r => by
    unfold ins
    split
    · simp
    · simp only [List.mem_cons, mem_ins x z r]
      constructor
      · rintro (h | h | h)
        · exact .inr (.inl h)
        · exact .inl h
        · exact .inr (.inr h)
      · rintro (h | h | h)
        · exact .inr (.inl h)
        · exact .inl h
        · exact .inr (.inr h)
theorem mem_isort (z : Int) : ∀ l, z ∈ isort l ↔ z ∈ l
  | [] => by simp [isort]
  | x :: r => by simp only [isort, mem_ins, mem_isort z r, List.mem_cons]
theorem up_ins (x : Int) : ∀ l, Up l → (∀ y ∈ l, y.natAbs ≠ x.natAbs) → Up (ins x l)
  | [], _, _ => by simp [ins, Up]
  | y :: r, hu, hne => by
    have hy := hne y (by simp)
    have hu' := List.pairwise_cons.1 hu
    unfold ins
    split
    · rename_i h
      refine List.pairwise_cons.2 ⟨fun z hz => ?_, hu⟩
      rcases List.mem_cons.1 hz with rfl | hz
      · omega
      · have := hu'.1 z hz
        omega
    · rename_i h
      refine List.pairwise_cons.2 ⟨fun z hz => ?_, up_ins x r hu'.2 fun z hz => hne z (by simp [hz])⟩
      rcases (mem_ins x z r).1 hz with rfl | hz
      · omega
      · exact hu'.1 z hz
/-- No literal twice, and no two opposites. -/
def Apart (S : List Int) : Prop := S.Pairwise fun a b => a.natAbs ≠ b.natAbs
theorem up_isort : ∀ l, Apart l → Up (isort l)
  | [], _ => by simp [isort, Up]
  | x :: r, h => by
    have h' := List.pairwise_cons.1 h
    exact up_ins x _ (up_isort r h'.2) fun y hy => fun e => h'.1 y ((mem_isort y r).1 hy) e.symm
theorem up_unique : ∀ a b : List Int, Up a → Up b → (∀ x, x ∈ a ↔ x ∈ b) → a = b
  | [], b, _, _, h => by
    cases b with
    | nil => rfl
    | cons y r => exact absurd ((h y).2 (by simp)) (by simp)
  | x :: r, [], _, _, h => absurd ((h x).1 (by simp)) (by simp)
  | x :: r, y :: s, ha, hb, h => by
    have ha' := List.pairwise_cons.1 ha
    have hb' := List.pairwise_cons.1 hb
    have exy : x = y := by
      rcases List.mem_cons.1 ((h x).1 (by simp)) with e | e
      · exact e
      · rcases List.mem_cons.1 ((h y).2 (by simp)) with e' | e'
        · exact e'.symm
        · have h1 := hb'.1 x e
          have h2 := ha'.1 y e'
          omega
    subst exy
    rw [up_unique r s ha'.2 hb'.2 fun z => ?_]
    constructor
    · intro hz
      rcases List.mem_cons.1 ((h z).1 (List.mem_cons_of_mem _ hz)) with e | e
      · subst e; exact absurd (ha'.1 z hz) (by omega)
      · exact e
    · intro hz
      rcases List.mem_cons.1 ((h z).2 (List.mem_cons_of_mem _ hz)) with e | e
      · subst e; exact absurd (hb'.1 z hz) (by omega)
      · exact e

/-! ### What any way of working may lean on -/
theorem apart_cons {S : List Int} {x : Int} (h : Apart S) (h1 : x ∉ S) (h2 : -x ∉ S) : Apart (x :: S) :=
  List.pairwise_cons.2 ⟨fun y hy e => by
    have : y = x ∨ y = -x := by omega
    rcases this with rfl | rfl
    · exact h1 hy
    · exact h2 hy, h⟩
theorem apart_opp {S : List Int} (h : Apart S) {x : Int} (hx : x ∈ S) (h0 : x ≠ 0) : -x ∉ S := fun hn => by
  have aux : ∀ S : List Int, Apart S → x ∈ S → -x ∈ S → False := by
    intro S
    induction S with
    | nil => intro _ h; simp at h
    | cons a r ih =>
      intro hS h1 h2
      have hS' := List.pairwise_cons.1 hS
      rcases List.mem_cons.1 h1 with e1 | h1
      · rcases List.mem_cons.1 h2 with e2 | h3
        · omega
        · exact hS'.1 (-x) h3 (by omega)
      · rcases List.mem_cons.1 h2 with e2 | h3
        · exact hS'.1 x h1 (by omega)
        · exact ih hS'.2 h1 h3
  exact aux S h hx hn

/-- A clause that asks for nothing more. -/
def Settled (S : List Int) (c : List Int) : Prop := (∃ x ∈ c, x ∈ S) ∨ ∃ u ∈ c, ∃ v ∈ c, u ≠ v ∧ -u ∉ S ∧ -v ∉ S

theorem done {l : List (List Int)} {fr S : List Int} (hf : ∀ x ∈ fr, x ∈ S) (hS : ∀ x ∈ S, Der l fr x) (ha : Apart S) (h0 : ∀ x ∈ S, x ≠ 0) (hc : ∀ c ∈ l, Settled S c) :
    ¬ Fails l fr ∧ ∀ x, x ∈ S ↔ Der l fr x := by
  have hcl : Closed l (· ∈ S) := by
    intro c hcl x hx hy
    rcases hc c hcl with ⟨z, hz, hzS⟩ | ⟨u, hu, v, hv, huv, hnu, hnv⟩
    · by_cases e : z = x
      · subst e; exact hzS
      · exact absurd (hy z hz e) (apart_opp ha hzS (h0 z hzS))
    · by_cases e : u = x
      · subst e; exact absurd (hy v hv (fun e => huv e.symm)) hnv
      · exact absurd (hy u hu e) hnu
  have hd : ∀ x, x ∈ S ↔ Der l fr x := fun x => ⟨hS x, fun h => h (· ∈ S) hf hcl⟩
  refine ⟨?_, hd⟩
  rintro (⟨x, h1, h2⟩ | ⟨c, hcl', hy⟩)
  · have h1 := (hd x).2 h1
    exact apart_opp ha h1 (h0 x h1) ((hd _).2 h2)
  · rcases hc c hcl' with ⟨z, hz, hzS⟩ | ⟨u, hu, v, hv, huv, hnu, hnv⟩
    · exact apart_opp ha hzS (h0 z hzS) ((hd _).2 (hy z hz))
    · exact hnu ((hd _).2 (hy u hu))

theorem ne_zero_of {c : List Int} (h : cRight c = true) {x : Int} (hx : x ∈ c) : x ≠ 0 := by
  have := List.all_eq_true.1 h x hx
  simp [litOk] at this
  exact this.1
theorem cRight_of {l : List (List Int)} (h : lRight l = true) {c : List Int} (hc : c ∈ l) : cRight c = true := List.all_eq_true.1 h c hc

/-- All that is known of a set on the way. -/
structure Way (l : List (List Int)) (fr S : List Int) : Prop where
  der : ∀ x ∈ S, Der l fr x
  apart : Apart S
  zero : ∀ x ∈ S, x ≠ 0

theorem Way.nil (l : List (List Int)) (fr : List Int) : Way l fr [] := ⟨by simp, by simp [Apart], by simp⟩
theorem Way.cons {l : List (List Int)} {fr S : List Int} {x : Int} (h : Way l fr S) (hx : Der l fr x) (h0 : x ≠ 0) (h1 : x ∉ S) (h2 : -x ∉ S) : Way l fr (x :: S) :=
  ⟨fun z hz => by rcases List.mem_cons.1 hz with rfl | hz <;> first | exact hx | exact h.der z hz, apart_cons h.apart h1 h2, fun z hz => by rcases List.mem_cons.1 hz with rfl | hz <;> first | exact h0 | exact h.zero z hz⟩

theorem hold1_way {l : List (List Int)} {fr S S' : List Int} {x : Int} (h : Way l fr S) (hx : Der l fr x) (h0 : x ≠ 0) (hs : hold1 S x = some S') : Way l fr S' ∧ x ∈ S' ∧ ∀ z ∈ S, z ∈ S' := by
  unfold hold1 at hs
  split at hs
  · cases hs
  · rename_i h2
    split at hs
    · rename_i h1
      cases hs
      exact ⟨h, by simpa using h1, fun _ hz => hz⟩
    · rename_i h1
      cases hs
      exact ⟨h.cons hx h0 (by simpa using h1) (by simpa using h2), by simp, fun _ hz => by simp [hz]⟩
theorem start_way {l : List (List Int)} {fr : List Int} : ∀ (gs S : List Int), (∀ x ∈ gs, x ∈ fr ∧ x ≠ 0) → Way l fr S →
    match start gs S with
    | none => Fails l fr
    | some S' => Way l fr S' ∧ (∀ x ∈ gs, x ∈ S') ∧ ∀ z ∈ S, z ∈ S'
  | [], S, _, h => ⟨h, by simp, fun _ hz => hz⟩
  | x :: gs, S, hg, h => by
    have hx := hg x (by simp)
    unfold start
    cases e : hold1 S x with
    | none =>
      show Fails l fr
      unfold hold1 at e
      split at e
      · rename_i h2
        exact .inl ⟨x, Der.of_from hx.1, h.der _ (by simpa using h2)⟩
      · split at e <;> cases e
    | some S1 =>
      have hw := hold1_way h (Der.of_from hx.1) hx.2 e
      have ih := start_way gs S1 (fun z hz => hg z (by simp [hz])) hw.1
      show match start gs S1 with
        | none => Fails l fr
        | some S' => Way l fr S' ∧ (∀ z ∈ x :: gs, z ∈ S') ∧ ∀ z ∈ S, z ∈ S'
      cases e2 : start gs S1 with
      | none => rw [e2] at ih; exact ih
      | some S2 =>
        rw [e2] at ih
        refine ⟨ih.1, fun z hz => ?_, fun z hz => ih.2.2 z (hw.2.2 z hz)⟩
        rcases List.mem_cons.1 hz with rfl | hz
        · exact ih.2.2 _ hw.2.1
        · exact ih.2.1 z hz

theorem filter_nil {S c : List Int} (h : c.filter (fun x => !S.contains (-x)) = []) : ∀ y ∈ c, -y ∈ S := fun y hy => by
  have := List.filter_eq_nil_iff.1 h y hy
  simpa using this

theorem unitStep_way {l : List (List Int)} {fr S : List Int} {c : List Int} (hc : c ∈ l) (hr : cRight c = true) (h : Way l fr S) :
    match unitStep S c with
    | none => Fails l fr
    | some S' => Way l fr S' ∧ (S' = S ∨ ∃ x ∈ c, x ∉ S ∧ S' = x :: S) ∧ (S' = S → Settled S c) := by
  unfold unitStep
  cases e : c.filter (fun x => !S.contains (-x)) with
  | nil => exact .inr ⟨c, hc, fun y hy => h.der _ (filter_nil e y hy)⟩
  | cons x r =>
    have hmem : ∀ z, z ∈ x :: r ↔ z ∈ c ∧ -z ∉ S := fun z => by rw [← e]; simp
    have hx := (hmem x).1 (by simp)
    simp only
    by_cases hh : (r.all (· == x) && !S.contains x) = true
    · rw [if_pos hh]
      simp only [Bool.and_eq_true, Bool.not_eq_true', List.all_eq_true] at hh
      have hxS : x ∉ S := by simpa using hh.2
      have hd : Der l fr x := Der.unit hc hx.1 fun y hy hne => by
        by_cases hyS : -y ∈ S
        · exact h.der _ hyS
        · rcases List.mem_cons.1 ((hmem y).2 ⟨hy, hyS⟩) with e | hy'
          · exact absurd e hne
          · exact absurd (by simpa using hh.1 y hy') hne
      refine ⟨h.cons hd (ne_zero_of hr hx.1) hxS hx.2, .inr ⟨x, hx.1, hxS, rfl⟩, fun e => ?_⟩
      have := congrArg List.length e
      simp at this
    · rw [if_neg hh]
      refine ⟨h, .inl rfl, fun _ => ?_⟩
      by_cases hxS : x ∈ S
      · exact .inl ⟨x, hx.1, hxS⟩
      · have : ¬ ∀ y ∈ r, (y == x) = true := fun ha => hh (by simp only [Bool.and_eq_true, Bool.not_eq_true', List.all_eq_true]; exact ⟨ha, by simpa using hxS⟩)
        obtain ⟨y, hy⟩ := Classical.not_forall.1 this
        obtain ⟨hyr, hyx⟩ := Classical.not_imp.1 hy
        have hy' := (hmem y).1 (by simp [hyr])
        exact .inr ⟨x, hx.1, y, hy'.1, fun e => hyx (by simp [e]), hx.2, hy'.2⟩

theorem settled_up {S S' c : List Int} (h : Settled S c) (he : S' = S) : Settled S' c := he ▸ h

theorem pass_way {l : List (List Int)} {fr : List Int} (hr : lRight l = true) : ∀ (m : List (List Int)) (S : List Int), (∀ c ∈ m, c ∈ l) → Way l fr S →
    match pass m S with
    | none => Fails l fr
    | some S' => Way l fr S' ∧ (∀ z ∈ S, z ∈ S') ∧ S.length ≤ S'.length ∧ (∀ z ∈ S', z ∈ S ∨ ∃ c ∈ l, z ∈ c) ∧ (S'.length = S.length → S' = S ∧ ∀ c ∈ m, Settled S c)
  | [], S, _, h => ⟨h, fun _ hz => hz, Nat.le_refl _, fun _ hz => .inl hz, fun _ => ⟨rfl, by simp⟩⟩
  | c :: m, S, hm, h => by
    have hc := hm c (by simp)
    have hu := unitStep_way hc (cRight_of hr hc) h
    unfold pass
    cases e : unitStep S c with
    | none => rw [e] at hu; exact hu
    | some S1 =>
      rw [e] at hu
      obtain ⟨hw, hor, hst⟩ := hu
      have ih := pass_way hr m S1 (fun z hz => hm z (by simp [hz])) hw
      show match pass m S1 with
        | none => Fails l fr
        | some S' => _
      cases e2 : pass m S1 with
      | none => rw [e2] at ih; exact ih
      | some S2 =>
        rw [e2] at ih
        obtain ⟨i1, i2, i3, i4, i5⟩ := ih
        have h01 : (∀ z ∈ S, z ∈ S1) ∧ (S1 = S ∨ S1.length = S.length + 1) ∧ ∀ z ∈ S1, z ∈ S ∨ ∃ c ∈ l, z ∈ c := by
          rcases hor with rfl | ⟨x, hx, _, rfl⟩
          · exact ⟨fun _ hz => hz, .inl rfl, fun _ hz => .inl hz⟩
          · refine ⟨fun _ hz => by simp [hz], .inr (by simp), fun z hz => ?_⟩
            rcases List.mem_cons.1 hz with rfl | hz
            · exact .inr ⟨c, hc, hx⟩
            · exact .inl hz
        refine ⟨i1, fun z hz => i2 z (h01.1 z hz), ?_, fun z hz => ?_, fun hl => ?_⟩
        · rcases h01.2.1 with e | e
          · rw [← e]; exact i3
          · omega
        · rcases i4 z hz with hz | hz
          · exact h01.2.2 z hz
          · exact .inr hz
        · rcases h01.2.1 with e | e
          · subst e
            obtain ⟨rfl, h5⟩ := i5 hl
            refine ⟨rfl, fun d hd => ?_⟩
            rcases List.mem_cons.1 hd with rfl | hd
            · exact hst rfl
            · exact h5 d hd
          · omega

/-- How many of a list's members stand in a set that is apart. -/
theorem length_le_of_sub : ∀ (S L : List Int), Apart S → (∀ x ∈ S, x ∈ L) → S.length ≤ L.length
  | [], _, _, _ => Nat.zero_le _
  | x :: S, L, ha, hs => by
    have ha' := List.pairwise_cons.1 ha
    have hx : x ∈ L := hs x (by simp)
    have ih := length_le_of_sub S (L.erase x) ha'.2 fun y hy => by
      refine (List.mem_erase_of_ne fun e => ?_).2 (hs y (by simp [hy]))
      subst e
      exact ha'.1 y hy rfl
    rw [List.length_erase_of_mem hx] at ih
    have : 0 < L.length := List.length_pos_of_mem hx
    simp only [List.length_cons]
    omega
def flat (l : List (List Int)) : List Int := l.foldr (· ++ ·) []
theorem mem_flat {z : Int} : ∀ {l : List (List Int)}, z ∈ flat l ↔ ∃ c ∈ l, z ∈ c
  | [] => by simp [flat]
  | c :: l => by
    have := mem_flat (z := z) (l := l)
    simp only [flat] at this
    simp [flat, this]
theorem length_flat : ∀ l : List (List Int), (flat l).length = total l
  | [] => rfl
  | c :: l => by
    have := length_flat l
    simp only [flat, total] at this
    simp [flat, total, this]

theorem iter_way {l : List (List Int)} {fr S0 : List Int} (hr : lRight l = true) : ∀ (n : Nat) (S : List Int), Way l fr S → (∀ z ∈ S0, z ∈ S) → (∀ z ∈ S, z ∈ S0 ∨ ∃ c ∈ l, z ∈ c) → S0.length + total l < S.length + n →
    match iter n l S with
    | none => Fails l fr
    | some S' => Way l fr S' ∧ (∀ z ∈ S0, z ∈ S') ∧ (∀ c ∈ l, Settled S' c) ∧ ∀ z ∈ S', z ∈ S0 ∨ ∃ c ∈ l, z ∈ c
  | 0, S, h, _, hs, hlt => by
    have h1 := length_le_of_sub S (S0 ++ flat l) h.apart fun x hx => by
      rcases hs x hx with h | h
      · simp [h]
      · simp [mem_flat.2 h]
    rw [List.length_append, length_flat] at h1
    omega
  | n + 1, S, h, h0, hs, hlt => by
    have hp := pass_way hr l S (fun _ hc => hc) h
    unfold iter
    cases e : pass l S with
    | none => rw [e] at hp; exact hp
    | some S1 =>
      rw [e] at hp
      obtain ⟨p1, p2, p3, p4, p5⟩ := hp
      simp only [Option.bind_some]
      have hs1 : ∀ z ∈ S1, z ∈ S0 ∨ ∃ c ∈ l, z ∈ c := fun z hz => by
        rcases p4 z hz with h | h
        · exact hs z h
        · exact .inr h
      by_cases hl : S1.length = S.length
      · rw [if_pos hl]
        obtain ⟨rfl, h5⟩ := p5 hl
        exact ⟨p1, h0, h5, hs1⟩
      · rw [if_neg hl]
        exact iter_way hr n S1 p1 (fun z hz => p2 z (h0 z hz)) hs1 (by omega)

/-- THE LAW: what 'spread' tells is what follows. -/
theorem spread_char {l : List (List Int)} {fr : List Int} (hl : lRight l = true) (hf : cRight fr = true) :
    (Fails l fr ∧ spread l fr = ([], false)) ∨ (¬ Fails l fr ∧ ∃ r, spread l fr = (r, true) ∧ Up r ∧ ∀ x, x ∈ r ↔ Der l fr x) := by
  have hs := start_way (l := l) (fr := fr) fr [] (fun x hx => ⟨hx, ne_zero_of hf hx⟩) (Way.nil l fr)
  unfold spread
  rw [hl, hf]
  simp only [Bool.and_self, if_true]
  cases e : start fr [] with
  | none => rw [e] at hs; exact .inl ⟨hs, rfl⟩
  | some S =>
    rw [e] at hs
    have hi := iter_way (S0 := S) hr0 (total l + 1) S hs.1 (fun _ hz => hz) (fun _ hz => .inl hz) (by omega)
    simp only
    cases e2 : iter (total l + 1) l S with
    | none => rw [e2] at hi; exact .inl ⟨hi, rfl⟩
    | some S2 =>
      rw [e2] at hi
      have hd := done (fun x hx => hi.2.1 x (hs.2.1 x hx)) hi.1.der hi.1.apart hi.1.zero hi.2.2.1
      exact .inr ⟨hd.1, isort S2, rfl, up_isort S2 hi.1.apart, fun x => by rw [mem_isort]; exact hd.2 x⟩
where hr0 := hl

/-- Whoever works it out otherwise comes to the same. -/
theorem spread_some {l : List (List Int)} {fr r : List Int} (hl : lRight l = true) (hf : cRight fr = true) (hn : ¬ Fails l fr) (hu : Up r) (hr : ∀ x, x ∈ r ↔ Der l fr x) : spread l fr = (r, true) := by
  rcases spread_char hl hf with ⟨h, _⟩ | ⟨_, r', h1, h2, h3⟩
  · exact absurd h hn
  · rw [h1, up_unique r' r h2 hu fun x => (h3 x).trans (hr x).symm]
theorem spread_none {l : List (List Int)} {fr : List Int} (hl : lRight l = true) (hf : cRight fr = true) (hn : Fails l fr) : spread l fr = ([], false) := by
  rcases spread_char hl hf with ⟨_, h⟩ | ⟨h, _⟩
  · exact h
  · exact absurd hn h
theorem spread_wrong {l : List (List Int)} {fr : List Int} (h : (lRight l && cRight fr) = false) : spread l fr = ([], false) := by
  unfold spread
  rw [h]
  rfl

end Go.Proofs.Ytphloehjcfipfaa.Cl
end

section
/- A map from whole numbers to whole numbers as a set: what the machine's operations do to it. -/
set_option linter.unusedVariables false
set_option linter.unusedSimpArgs false
namespace Go.Proofs.Ytphloehjcfipfaa.Cl
open Go.RowKit Go.Maps Go.WideMaps

/-- What is asked of a program's types: kt is int, mt a map of these. -/
structure IntMap (P : Program) (kt mt : TypeId) : Prop where
  hk : P.underlying kt = some (.int .i64)
  hm : P.underlying mt = some (.map kt kt)
  hz : ∀ w, (zeroValue kt).run P w = .ok (.int .i64 0) w

def wfI (x : Int) : Prop := (Lit.int .i64 x).wf = true

/-- Block b is a map whose keys are just S. -/
def IsSet (P : Program) (kt : TypeId) (w : World) (b : Nat) (S : List Int) : Prop :=
  ∃ (D : DataW Unit) (n : Nat), w.ownsMap P kt (plainElem P kt) b n D ∧ n ≤ S.length ∧ Maps.size D = S.length ∧ ∀ x, wfI x → Maps.has D (.int .i64 x) = S.contains x

section
variable {P : Program} {kt mt : TypeId} {w w1 : World} {b : Nat} {S : List Int}

theorem IntMap.keyed (M : IntMap P kt mt) : Keyed P kt := int_keyed M.hk

theorem IsSet.made (w : World) : IsSet P kt (w.alloc (.map #[] 0)) w.heap.size [] :=
  ⟨.map [], 0, World.ownsMap_made _ _ _ _, Nat.le_refl _, rfl, fun _ _ => rfl⟩

theorem IsSet.lt (h : IsSet P kt w b S) : b < w.heap.size := by
  obtain ⟨D, n, ho, _⟩ := h
  exact ho.lt
theorem IsSet.block (h : IsSet P kt w b S) : ∃ es clock, w.heap[b]? = some (.map es clock) := by
  obtain ⟨D, n, ⟨es, clock, hb, _⟩, _⟩ := h
  exact ⟨es, clock, hb⟩
theorem IsSet.at_ (h : IsSet P kt w b S) (he : w1.heap[b]? = w.heap[b]?) : IsSet P kt w1 b S := by
  obtain ⟨D, n, ⟨es, clock, hb, F, hs, hD⟩, r⟩ := h
  exact ⟨D, n, ⟨es, clock, he.trans hb, F, hs, hD⟩, r⟩
theorem IsSet.kept {row : Option Nat} (h : IsSet P kt w b S) (hg : w.grownBy w1 row) (hne : some b ≠ row) : IsSet P kt w1 b S := by
  obtain ⟨D, n, ho, r⟩ := h
  exact ⟨D, n, ho.kept hg hne, r⟩
theorem IsSet.alloc (h : IsSet P kt w b S) (o : Obj) : IsSet P kt (w.alloc o) b S := h.kept (World.grownBy_alloc w o none) (by simp)
theorem IsSet.drew (h : IsSet P kt w b S) : IsSet P kt w.drew b S := h
theorem IsSet.drewN (h : IsSet P kt w b S) (n : Nat) : IsSet P kt (w.drewN n) b S := h.at_ rfl

/-- '_, ok := m[x]'. -/
theorem IsSet.look (M : IntMap P kt mt) (h : IsSet P kt w b S) {x : Int} (hx : wfI x) : ∃ c : Int, (Instr.lookup mt (.map (some b)) (.int .i64 x) true).run P w = .ok (.tuple #[.int .i64 c, .bool (S.contains x)]) w := by
  obtain ⟨D, n, ho, hn, hs, hh⟩ := h
  obtain ⟨v, ps, hrun, hv⟩ := ho.look_ok M.keyed M.hm (M.hz w) (plainElem_int M.hk (by decide)) (keyOf_int_mk M.hk hx)
  obtain ⟨c, rfl, _, _⟩ := plainElem_int_inv M.hk hv
  exact ⟨c, by rw [hrun, hh x hx]⟩

/-- 'len(m)'. -/
theorem IsSet.len (M : IntMap P kt mt) (h : IsSet P kt w b S) (ty : TypeId) : (Builtin.len_ #[mt] ty #[.map (some b)]).run P w = .ok (.int .i64 (S.length : Int)) w := by
  obtain ⟨D, n, ho, hn, hs, hh⟩ := h
  rw [ho.len M.hm ty, hs]

theorem key_ne {x y : Int} (h : x ≠ y) : (Lit.int .i64 x) ≠ Lit.int .i64 y := fun e => h (by injection e)

/-- 'm[x] = c', x new. -/
theorem IsSet.store (M : IntMap P kt mt) (h : IsSet P kt w b S) {x c : Int} (hx : wfI x) (hc : wfI c) (hnew : S.contains x = false) (hl : S.length < 9223372036854775807) :
    ∃ w1, (Instr.mapUpdate mt (.map (some b)) (.int .i64 x) (.int .i64 c)).run P w = .ok () w1 ∧ IsSet P kt w1 b (x :: S) ∧ w.mapTurned w1 b := by
  obtain ⟨D, n, ho, hn, hs, hh⟩ := h
  obtain ⟨w1, hrun, ho1, hg⟩ := ho.store M.keyed M.hm (by unfold maxLen; omega) (keyOf_int_mk M.hk hx) (plainElem_int M.hk hc)
  refine ⟨w1, hrun, ⟨_, _, ho1, by simp only [List.length_cons]; omega, ?_, fun y hy => ?_⟩, hg⟩
  · have ht : Tidy D := by
      obtain ⟨es, he, hp, _⟩ := ho.entries M.keyed
      exact ⟨es, he, hp⟩
    rw [size_put ht, hh x hx, hnew]
    simp [hs]
  · have him : IsMap D := by
      obtain ⟨es, he, _⟩ := ho.entries M.keyed
      exact ⟨es, he⟩
    by_cases e : y = x
    · subst e
      rw [has_put_same him (by simp [WideAt.IsKeyLit])]
      simp
    · rw [has_put_other (key_ne e), hh y hy]
      simp [e]

/-- A range over the map, on its way: those in 'left' are still to come. -/
def Going (P : Program) (kt : TypeId) (w : World) (b r : Nat) (S left : List Int) (cnt : Nat) : Prop :=
  ∃ (D : DataW Unit) (n : Nat) (f : Lit → Bool), w.ranges P kt (plainElem P kt) b r n D f cnt ∧ n ≤ S.length ∧ Maps.size D = S.length ∧ (∀ x, wfI x → Maps.has D (.int .i64 x) = S.contains x) ∧ (∀ x, wfI x → f (.int .i64 x) = left.contains x) ∧ left.Nodup ∧ (∀ x ∈ left, wfI x) ∧ (∀ x ∈ left, x ∈ S)

theorem Going.set {r cnt : Nat} {left : List Int} (h : Going P kt w b r S left cnt) : IsSet P kt w b S := by
  obtain ⟨D, n, f, hr, h1, h2, h3, _⟩ := h
  exact ⟨D, n, hr.owns, h1, h2, h3⟩
theorem Going.ne {r cnt : Nat} {left : List Int} (h : Going P kt w b r S left cnt) : r ≠ b := by
  obtain ⟨D, n, f, hr, _⟩ := h
  exact hr.ne
theorem Going.lt {r cnt : Nat} {left : List Int} (h : Going P kt w b r S left cnt) : r < w.heap.size := by
  obtain ⟨D, n, f, hr, _⟩ := h
  exact hr.lt
theorem Going.left_eq {r cnt : Nat} {left : List Int} (h : Going P kt w b r S left cnt) : w.rangeLeft b r = cnt := by
  obtain ⟨D, n, f, hr, _⟩ := h
  exact hr.left_eq
theorem Going.kept {r cnt : Nat} {left : List Int} {row : Option Nat} (h : Going P kt w b r S left cnt) (hg : w.grownBy w1 row) (hb : some b ≠ row) (hr' : some r ≠ row) : Going P kt w1 b r S left cnt := by
  obtain ⟨D, n, f, hr, rest⟩ := h
  exact ⟨D, n, f, hr.kept hg hb hr', rest⟩
theorem Going.alloc {r cnt : Nat} {left : List Int} (h : Going P kt w b r S left cnt) (o : Obj) : Going P kt (w.alloc o) b r S left cnt := h.kept (World.grownBy_alloc w o none) (by simp) (by simp)

section
variable {ops : Array Oper} {rest : List Oper} {o : Oper} {a : Act} {Q : Exit → Act → World → Prop}

/-- 'range m' begins. -/
theorem set_range (M : IntMap P kt mt) (hg : o.guard = none) (m : Operand) (hop : o.op = Op.range mt m) (hm : a.eval m = .map (some b)) (h : IsSet P kt w b S) (hnd : S.Nodup) (hwf : ∀ x ∈ S, wfI x)
    (hK : ∀ w' cnt, Going P kt w' b w.heap.size S S cnt → w.grownBy w' none → w'.heap.size = w.heap.size + 1 → wpList P ops Q rest (a.put o.dst (.pointer (some ⟨w.heap.size, 0, none⟩))) w') :
    wpList P ops Q (o :: rest) a w := by
  obtain ⟨D, n, ho, hn, hs, hh⟩ := h
  refine wpList_range_own w hg m mt hop kt kt M.keyed M.hm _ b n D hm ho ?_
  intro w' hr hg' hsz
  exact hK w' _ ⟨D, n, _, hr, hn, hs, hh, hh, hnd, hwf, fun _ hx => hx⟩ hg' hsz

/-- Its step. -/
theorem set_next (M : IntMap P kt mt) (hg : o.guard = none) (it : Operand) (hop : o.op = Op.next it false) {r cnt : Nat} {left : List Int} (hit : a.eval it = .pointer (some ⟨r, 0, none⟩)) (h : Going P kt w b r S left cnt)
    (hDone : left = [] → wpList P ops Q rest (a.put o.dst (.tuple #[.bool false])) w)
    (hMore : ∀ (x c : Int) (w' : World) (cnt' : Nat), x ∈ left → wfI x → Going P kt w' b r S (left.erase x) cnt' → cnt' < cnt → w.grownBy w' (some r) → w'.heap.size = w.heap.size →
      (Instr.entry (.pointer (some ⟨r, 0, none⟩))).run P w' = .ok (.tuple #[.int .i64 x, .int .i64 c]) w' → wpList P ops Q rest (a.put o.dst (.tuple #[.bool true, .int .i64 x, .int .i64 c])) w') :
    wpList P ops Q (o :: rest) a w := by
  obtain ⟨D, n, f, hr, hn, hs, hh, hf, hnd, hwf, hsub⟩ := h
  refine wpList_next_ranges_ii w hg it hop kt kt .i64 .i64 M.keyed M.hk M.hk b r n D f cnt hit hr ?_ ?_
  · intro _ h0
    refine hDone (List.eq_nil_iff_forall_not_mem.2 fun x hx => ?_)
    have := hf x (hwf x hx)
    rw [h0] at this
    simp [hx] at this
  · intro x c w' cnt' hx hc hfx _ hr' hlt hg' hsz hen
    have hxl : x ∈ left := by
      have := hf x hx
      rw [hfx] at this
      simpa using this.symm
    refine hMore x c w' cnt' hxl hx ⟨D, n, _, hr', hn, hs, hh, fun y hy => ?_, hnd.erase x, fun y hy => hwf y (List.mem_of_mem_erase hy), fun y hy => hsub y (List.mem_of_mem_erase hy)⟩ hlt hg' hsz hen
    by_cases e : y = x
    · subst e
      have : (Lit.int .i64 y).sameKey (.int .i64 y) = true := by simp [Lit.sameKey]
      simp only [this]
      have hn' : y ∉ left.erase y := fun h => by
        have := (List.Nodup.mem_erase_iff hnd).1 h
        exact this.1 rfl
      simp [hn']
    · have : (Lit.int .i64 y).sameKey (.int .i64 x) = false := sameKey_ne (key_ne e)
      simp only [this, Bool.not_false, Bool.and_true, hf y hy]
      rw [Bool.eq_iff_iff]
      simp only [List.contains_iff_mem]
      exact (List.mem_erase_of_ne e).symm

/-- 'delete(m, x)' right behind the step. -/
theorem set_delete (M : IntMap P kt mt) (hg : o.guard = none) (m x : Operand) (hop : o.op = Op.call { callee := Callee.builtin Builtin.delete, args := #[m, x], argTypes := #[mt, kt] }) {k : Int} (hS : IsSet P kt w b S) (hnd : S.Nodup) (hk : wfI k) (hmem : k ∈ S)
    (hm : a.eval m = .map (some b)) (hx : a.eval x = .int .i64 k)
    (hK : ∀ w', IsSet P kt w' b (S.erase k) → w.mapTurned w' b → wpList P ops Q rest (a.put o.dst (.tuple #[])) w') :
    wpList P ops Q (o :: rest) a w := by
  obtain ⟨D, n, ho, hn, hs, hh⟩ := hS
  refine wpList_delete_own w hg m x mt kt hop kt M.keyed M.hm _ b n D hm ho _ _ hx (keyOf_int_mk M.hk hk) ?_
  intro w' ho' ht
  have htd : Tidy D := by
    obtain ⟨es, he, hp, _⟩ := ho.entries M.keyed
    exact ⟨es, he, hp⟩
  have hsz : Maps.size (D.del (.int .i64 k)) + 1 = S.length := by
    have := size_del (k := .int .i64 k) htd
    rw [hh k hk] at this
    simp [hmem] at this
    omega
  have hle : (S.erase k).length = S.length - 1 := List.length_erase_of_mem hmem
  refine hK w' ⟨D.del (.int .i64 k), Maps.size (D.del (.int .i64 k)), ?_, by omega, by omega, fun y hy => ?_⟩ ht
  · obtain ⟨es, clock, hb, F, _, hD⟩ := ho'
    refine ⟨es, clock, hb, F, ?_, hD⟩
    rw [hD]
    simp [Maps.size, length_sorted]
  · by_cases e : y = k
    · subst e
      rw [has_del_same]
      have hn' : y ∉ S.erase y := fun h => by
        have := (List.Nodup.mem_erase_iff hnd).1 h
        exact this.1 rfl
      simp [hn']
    · rw [has_del_other (key_ne e), hh y hy, Bool.eq_iff_iff]
      simp only [List.contains_iff_mem]
      exact (List.mem_erase_of_ne e).symm
end
end
end Go.Proofs.Ytphloehjcfipfaa.Cl
end

section
/- A map from whole numbers to rows of whole numbers: what it holds at each key, through the machine's operations. -/
set_option linter.unusedVariables false
set_option linter.unusedSimpArgs false
namespace Go.Proofs.Ytphloehjcfipfaa.Cl
open Go.RowKit Go.Maps Go.WideMaps Go.WideElems Go.ChangeMaps Go.MapKept Go.ChangeShapes

structure GroupMap (P : Program) (kt st gt : TypeId) : Prop where
  hk : P.underlying kt = some (.int .i64)
  hm : P.underlying gt = some (.map kt st)
  hz : ∀ w, (zeroValue st).run P w = .ok (.slice none 0 0) w

theorem GroupMap.keyed {P : Program} {kt st gt : TypeId} (M : GroupMap P kt st gt) : Keyed P kt := int_keyed M.hk

/-- What a row reads as. -/
def RowD (d : DataW Unit) (zs : List Int) : Prop := (d = .nil ∧ zs = []) ∨ d = .slice (lits .i64 zs) []
theorem lits_inj {xs ys : List Int} (h : (lits .i64 xs : List (DataW Unit)) = lits .i64 ys) : xs = ys := by
  have : ∀ (xs ys : List Int), (lits .i64 xs : List (DataW Unit)) = lits .i64 ys → xs = ys := by
    intro xs
    induction xs with
    | nil => intro ys h; cases ys with
      | nil => rfl
      | cons y ys => simp [lits] at h
    | cons x xs ih => intro ys h; cases ys with
      | nil => simp [lits] at h
      | cons y ys =>
        simp [lits] at h
        rw [h.1, ih ys (by simp [lits, h.2])]
  exact this xs ys h
theorem RowD.uniq {d : DataW Unit} {xs ys : List Int} (h : RowD d xs) (h' : RowD d ys) : xs = ys := by
  rcases h with ⟨rfl, rfl⟩ | rfl
  · rcases h' with ⟨_, rfl⟩ | h'
    · rfl
    · cases h'
  · rcases h' with ⟨h', _⟩ | h'
    · cases h'
    · injection h' with h'
      exact lits_inj h'
theorem rowD_of {w : World} {base : Nat} {e : TypeId} {v : Value} {zs : List Int} (h : w.ownsInts base e .i64 v zs) : RowD (rowDatum .i64 v zs) zs := by
  rcases h.datum (H := Unit) with h | h
  · exact .inl h
  · exact .inr h

/-- Block b is a map that holds at each key x just G x; its rows lie from base on. -/
def HasRows (P : Program) (kt : TypeId) (w : World) (base b n : Nat) (G : Int → List Int) : Prop :=
  ∃ D : DataW Unit, w.ownsGroups P kt base kt .i64 b n D ∧ Maps.IsMap D ∧ ∀ x, wfI x → RowD (D.atKey (.int .i64 x) .nil) (G x)

section
variable {P : Program} {kt st gt : TypeId} {w w1 : World} {base b n : Nat} {G : Int → List Int}

theorem HasRows.made (w : World) (kt : TypeId) {base : Nat} (hb : w.heap.size < base) : HasRows P kt (w.alloc (.map #[] 0)) base w.heap.size 0 (fun _ => []) :=
  ⟨.map [], ⟨#[], 0, (MapKept.heap_alloc w _).1, ⟨by simp, stamped_empty 0, by simp⟩, Nat.le_refl _, rfl, hb, by simp, by simp⟩, Maps.isMap_empty, fun _ _ => .inl ⟨rfl, rfl⟩⟩

theorem HasRows.lt (h : HasRows P kt w base b n G) : b < w.heap.size := by
  obtain ⟨D, ⟨es, clock, hb, _⟩, _⟩ := h
  exact (Array.getElem?_eq_some_iff.1 hb).1
theorem HasRows.block (h : HasRows P kt w base b n G) : ∃ es clock, w.heap[b]? = some (.map es clock) := by
  obtain ⟨D, ⟨es, clock, hb, _⟩, _⟩ := h
  exact ⟨es, clock, hb⟩
theorem rowsOff {D : DataW Unit} (h : w.ownsGroups P kt base kt .i64 b n D) {row : Option Nat} (hr : ∀ j, row = some j → j < base ∨ ∀ c t f, w.heap[j]? ≠ some (.cells c t f)) : ∀ es clock, w.heap[b]? = some (.map es clock) → ∀ x ∈ es.toList, x.val.ownBlock = none ∨ x.val.ownBlock ≠ row := fun es clock hb x hx => by
  obtain ⟨es', clock', hb', F, _⟩ := h
  obtain ⟨rfl, rfl⟩ : es' = es ∧ clock' = clock := by rw [hb'] at hb; simpa using hb
  cases hx' : x.val.ownBlock with
  | none => exact Or.inl rfl
  | some g =>
    refine Or.inr (fun e1 => ?_)
    obtain ⟨y, hy⟩ := F.reads x hx
    obtain ⟨z, hz, _⟩ := rd_val hy
    obtain ⟨zs, hoi, _⟩ := rowElem_inv hz
    have hlt := (hoi.1.lt g hx').1
    rcases hr g e1.symm with h1 | h1
    · omega
    · rcases hoi.1.2 with ⟨hv, _⟩ | ⟨g', cap, cur, hv, _, hh, _⟩
      · rw [hv] at hx'
        simp [Value.ownBlock] at hx'
      · rw [hv] at hx'
        have : g' = g := by simpa [Value.ownBlock] using hx'
        subst this
        exact h1 _ _ _ hh
theorem HasRows.kept {row : Option Nat} (h : HasRows P kt w base b n G) (hg : w.grownBy w1 row) (hb' : some b ≠ row) (hr : ∀ j, row = some j → j < base ∨ ∀ c t f, w.heap[j]? ≠ some (.cells c t f)) : HasRows P kt w1 base b n G := by
  obtain ⟨D, ho, r⟩ := h
  exact ⟨D, ho.kept hg hb' (rowsOff ho hr), r⟩
theorem HasRows.alloc (h : HasRows P kt w base b n G) (o : Obj) : HasRows P kt (w.alloc o) base b n G := h.kept (World.grownBy_alloc w o none) (by simp) (by simp)
theorem HasRows.drew (h : HasRows P kt w base b n G) : HasRows P kt w.drew base b n G := h.kept (row := none) ⟨rfl, rfl, rfl, Nat.le_refl _, fun _ _ _ => rfl⟩ (by simp) (by simp)
theorem HasRows.drewN (h : HasRows P kt w base b n G) (m : Nat) : HasRows P kt (w.drewN m) base b n G := h.kept (row := none) ⟨rfl, rfl, rfl, Nat.le_refl _, fun _ _ _ => rfl⟩ (by simp) (by simp)

/-- 'm[x]'. -/
theorem HasRows.look (M : GroupMap P kt st gt) (h : HasRows P kt w base b n G) (hn : n < maxLen) {x : Int} (hx : wfI x) :
    ∃ v, (Instr.lookup gt (.map (some b)) (.int .i64 x) false).run P w = .ok v w ∧ w.ownsInts base kt .i64 v (G x) ∧ (G x).length ≤ n ∧
      ∀ (w1 : World) (v' : Value) (zs' : List Int), w.grownBy w1 v.ownBlock → w1.ownsInts base kt .i64 v' zs' → zs'.length ≤ n + 1 → (v'.ownBlock = v.ownBlock ∨ ∃ g, v'.ownBlock = some g ∧ w.heap.size ≤ g) →
        ∃ w2, (Instr.mapUpdate gt (.map (some b)) (.int .i64 x) v').run P w1 = .ok () w2 ∧ HasRows P kt w2 base b (n + 1) (fun y => if y = x then zs' else G y) ∧ w1.grownBy w2 (some b) := by
  obtain ⟨D, ho, him, hG⟩ := h
  obtain ⟨v, zs, hrun, hat, hoi, hl, hback⟩ := ho.at M.keyed M.hm (M.hz w) hn (keyOf_int_mk M.hk hx)
  have hzs : zs = G x := by
    have h1 := hG x hx
    rw [hat] at h1
    exact (rowD_of hoi).uniq h1
  subst hzs
  refine ⟨v, hrun, hoi, hl, fun w1 v' zs' hg hoi' hl' hloc => ?_⟩
  obtain ⟨w2, hrun2, ho2, hg2⟩ := hback w1 v' zs' hg hoi' hl' hloc
  refine ⟨w2, hrun2, ⟨_, ho2, him.put _ _, fun y hy => ?_⟩, hg2⟩
  by_cases e : y = x
  · subst e
    rw [Maps.atKey_put_same him (by simp [WideAt.IsKeyLit])]
    simp only [if_pos]
    exact rowD_of hoi'
  · rw [Maps.atKey_put_other (key_ne e)]
    simp only [if_neg e]
    exact hG y hy
/-- The look-up reads the map's block alone. -/
theorem HasRows.look_same (M : GroupMap P kt st gt) (h : HasRows P kt w base b n G) {x : Int} (hx : wfI x) {v : Value} (hrun : (Instr.lookup gt (.map (some b)) (.int .i64 x) false).run P w = .ok v w) {W : World} (hW : W.heap[b]? = w.heap[b]?) :
    (Instr.lookup gt (.map (some b)) (.int .i64 x) false).run P W = .ok v W := by
  obtain ⟨D, ⟨es, clock, hb, F, _⟩, _⟩ := h
  have hkey := keyOf_int_mk M.hk hx
  rcases Maps.fit_look false M.keyed M.hm (M.hz w) hb F hkey with ⟨hr, hno, _⟩ | ⟨e0, y, hm, hk, hr, _⟩
  · rw [hrun] at hr
    rcases Maps.fit_look false M.keyed M.hm (M.hz W) (hW.trans hb) F hkey with ⟨hr', _, _⟩ | ⟨e1, _, hm', hk', _⟩
    · rw [hr']
      simp only [Result.ok.injEq, and_true] at hr
      rw [hr]
    · exact absurd hk' (hno e1 hm')
  · rw [hrun] at hr
    rcases Maps.fit_look false M.keyed M.hm (M.hz W) (hW.trans hb) F hkey with ⟨_, hno, _⟩ | ⟨e1, _, hm', hk', hr', _⟩
    · exact absurd hk (hno e0 hm)
    · have : e0 = e1 := entry_eq_of_key (List.pairwise_map.1 F.stamped.2.2) hm hm' (hk.trans hk'.symm)
      subst this
      rw [hr']
      simp only [Result.ok.injEq, and_true] at hr
      rw [hr]
theorem HasRows.ext {G' : Int → List Int} (h : HasRows P kt w base b n G) (e : ∀ x, G x = G' x) : HasRows P kt w base b n G' := by
  obtain rfl : G = G' := funext e
  exact h
end
end Go.Proofs.Ytphloehjcfipfaa.Cl
end

section
/- spreader.hold: a literal is true, or its opposite is. -/
set_option linter.unusedVariables false
set_option linter.unusedSimpArgs false
namespace Go.Proofs.Ytphloehjcfipfaa.Cl
open Go.RowKit Go.Maps

theorem im : IntMap Try.prog 3 73 := ⟨Try.underlying3, Try.underlying73, fun _ => by kernel_rfl⟩
theorem gm : GroupMap Try.prog 3 35 96 := ⟨Try.underlying3, Try.underlying96, fun _ => by kernel_rfl⟩

/-- A spreader in block g. -/
def SpBlk (w : World) (g : Nat) (lv : Value) (bi bs bw : Nat) : Prop := w.heap[g]? = some (.cells #[lv, .map (some bi), .map (some bs), .map (some bw)] 98 (0, 0))
theorem SpBlk.c0 {w : World} {g bi bs bw : Nat} {lv : Value} (h : SpBlk w g lv bi bs bw) : w.cell? ⟨g, 0, none⟩ = some lv := by unfold SpBlk at h; simp [World.cell?, h]
theorem SpBlk.c1 {w : World} {g bi bs bw : Nat} {lv : Value} (h : SpBlk w g lv bi bs bw) : w.cell? ⟨g, 1, none⟩ = some (.map (some bi)) := by unfold SpBlk at h; simp [World.cell?, h]
theorem SpBlk.c2 {w : World} {g bi bs bw : Nat} {lv : Value} (h : SpBlk w g lv bi bs bw) : w.cell? ⟨g, 2, none⟩ = some (.map (some bs)) := by unfold SpBlk at h; simp [World.cell?, h]
theorem SpBlk.c3 {w : World} {g bi bs bw : Nat} {lv : Value} (h : SpBlk w g lv bi bs bw) : w.cell? ⟨g, 3, none⟩ = some (.map (some bw)) := by unfold SpBlk at h; simp [World.cell?, h]
theorem SpBlk.at_ {w w1 : World} {g bi bs bw : Nat} {lv : Value} (h : SpBlk w g lv bi bs bw) (he : w1.heap[g]? = w.heap[g]?) : SpBlk w1 g lv bi bs bw := he.trans h
theorem SpBlk.lt {w : World} {g bi bs bw : Nat} {lv : Value} (h : SpBlk w g lv bi bs bw) : g < w.heap.size := lt_of_block h

/-- Nothing but the blocks of which S tells has turned. -/
structure Fr (w w' : World) (S : Nat → Prop) : Prop where
  os : w'.os = w.os
  tape : w'.tape = w.tape
  output : w'.output = w.output
  size : w.heap.size ≤ w'.heap.size
  block : ∀ i, i < w.heap.size → ¬ S i → w'.heap[i]? = w.heap[i]?
theorem Fr.refl (w : World) (S : Nat → Prop) : Fr w w S := ⟨rfl, rfl, rfl, Nat.le_refl _, fun _ _ _ => rfl⟩
theorem Fr.trans {a b c : World} {S : Nat → Prop} (h : Fr a b S) (k : Fr b c S) : Fr a c S :=
  ⟨k.os.trans h.os, k.tape.trans h.tape, k.output.trans h.output, Nat.le_trans h.size k.size, fun i hi hn => (k.block i (Nat.lt_of_lt_of_le hi h.size) hn).trans (h.block i hi hn)⟩
theorem Fr.of_grown {w w' : World} {row : Option Nat} {S : Nat → Prop} (h : w.grownBy w' row) (hS : ∀ j, row = some j → j < w.heap.size → S j) : Fr w w' S :=
  ⟨h.os, h.tape, h.output, h.size, fun i hi hn => h.block i hi fun e => hn (hS i e.symm hi)⟩
theorem Fr.of_turned {w w' : World} {b : Nat} {S : Nat → Prop} (h : w.mapTurned w' b) (hS : S b) : Fr w w' S := Fr.of_grown h.grown fun j e _ => by cases e; exact hS
theorem Fr.mono {w w' : World} {S S' : Nat → Prop} (h : Fr w w' S) (hS : ∀ i, i < w.heap.size → S i → S' i) : Fr w w' S' := ⟨h.os, h.tape, h.output, h.size, fun i hi hn => h.block i hi fun hs => hn (hS i hi hs)⟩
theorem Fr.below {w0 w w' : World} {B : Nat} {S : Nat → Prop} (h : Fr w w' S) (hb : Below B w0 w) (hB : B ≤ w.heap.size) (hS : ∀ i, S i → B ≤ i) : Below B w0 w' :=
  hb.trans ⟨h.os, h.tape, h.output, h.size, fun k hk => h.block k (by omega) fun hs => by have := hS k hs; omega⟩

theorem wf_lit {x : Int} (h1 : -1048576 ≤ x) (h2 : x ≤ 1048576) : wfI x := WalkArith.wf_i64 (by omega)

theorem turned_other {w w1 : World} {b i : Nat} (h : w.mapTurned w1 b) (hne : i ≠ b) (hlt : i < w.heap.size) : w1.heap[i]? = w.heap[i]? := h.grown.block i hlt (fun e => hne (by cases e; rfl))

theorem SpBlk.ne_map {w : World} {g bi bs bw : Nat} {lv : Value} (h : SpBlk w g lv bi bs bw) {b : Nat} {es : Array MapEntry} {c : Nat} (hb : w.heap[b]? = some (.map es c)) : g ≠ b := by
  rintro rfl
  unfold SpBlk at h
  rw [h] at hb
  cases hb

set_option maxHeartbeats 1000000 in
/-- Its opposite is true already. -/
theorem hold_no {w : World} {g bi bs bw : Nat} {lv : Value} {S : List Int} {x : Int} (hg : SpBlk w g lv bi bs bw) (hS : IsSet Try.prog 3 w bs S) (h1 : -1048576 ≤ x) (h2 : x ≤ 1048576) (hn : S.contains (-x) = true) :
    Calls Try.prog 68 #[.pointer (some ⟨g, 0, none⟩), .int .i64 x] w fun e w' => e = .returned (.bool false) ∧ w' = w := by
  obtain ⟨c, hl⟩ := hS.look im (x := -x) (wf_lit (by omega) (by omega))
  rw [hn] at hl
  have hc2 := hg.c2
  clear hS hn
  go_enter Try.func68, Try.ntmps68
  go_wp2
  go_ret
  exact ⟨rfl, rfl⟩

set_option maxHeartbeats 1000000 in
/-- It is true already. -/
theorem hold_old {w : World} {g bi bs bw : Nat} {lv : Value} {S : List Int} {x : Int} (hg : SpBlk w g lv bi bs bw) (hS : IsSet Try.prog 3 w bs S) (h1 : -1048576 ≤ x) (h2 : x ≤ 1048576) (hn : S.contains (-x) = false) (ho : S.contains x = true) :
    Calls Try.prog 68 #[.pointer (some ⟨g, 0, none⟩), .int .i64 x] w fun e w' => e = .returned (.bool true) ∧ w' = w := by
  obtain ⟨c, hl⟩ := hS.look im (x := -x) (wf_lit (by omega) (by omega))
  obtain ⟨c', hl'⟩ := hS.look im (x := x) (wf_lit (by omega) (by omega))
  rw [hn] at hl
  rw [ho] at hl'
  have hc2 := hg.c2
  clear hS hn ho
  go_enter Try.func68, Try.ntmps68
  go_wp2
  go_ret
  exact ⟨rfl, rfl⟩

set_option maxHeartbeats 1000000 in
/-- It is new. -/
theorem hold_new {w : World} {g bi bs bw : Nat} {lv : Value} {S W : List Int} {x : Int} (hg : SpBlk w g lv bi bs bw) (hS : IsSet Try.prog 3 w bs S) (hW : IsSet Try.prog 3 w bw W) (hne : bs ≠ bw) (hlS : S.length < 9223372036854775807) (hlW : W.length < 9223372036854775807)
    (h1 : -1048576 ≤ x) (h2 : x ≤ 1048576) (hn : S.contains (-x) = false) (ho : S.contains x = false) (hw : W.contains x = false) :
    Calls Try.prog 68 #[.pointer (some ⟨g, 0, none⟩), .int .i64 x] w fun e w' => e = .returned (.bool true) ∧ (IsSet Try.prog 3 w' bs (x :: S) ∧ IsSet Try.prog 3 w' bw (x :: W) ∧ Fr w w' (fun i => i = bs ∨ i = bw)) := by
  obtain ⟨c, hl⟩ := hS.look im (x := -x) (wf_lit (by omega) (by omega))
  obtain ⟨c', hl'⟩ := hS.look im (x := x) (wf_lit (by omega) (by omega))
  rw [hn] at hl
  rw [ho] at hl'
  obtain ⟨w1, hr1, hS1, ht1⟩ := hS.store im (x := x) (c := 1) (wf_lit (by omega) (by omega)) (wf_lit (by omega) (by omega)) ho hlS
  have hgw : g ≠ bs := by obtain ⟨es, cl, hb⟩ := hS.block; exact hg.ne_map hb
  have hW1 : IsSet Try.prog 3 w1 bw W := hW.at_ (turned_other ht1 (Ne.symm hne) hW.lt)
  have hg1 : SpBlk w1 g lv bi bs bw := hg.at_ (turned_other ht1 hgw hg.lt)
  obtain ⟨w2, hr2, hW2, ht2⟩ := hW1.store im (x := x) (c := 1) (wf_lit (by omega) (by omega)) (wf_lit (by omega) (by omega)) hw hlW
  have hS2 : IsSet Try.prog 3 w2 bs (x :: S) := hS1.at_ (turned_other ht2 hne hS1.lt)
  have hend := Lib.hid (show IsSet Try.prog 3 w2 bs (x :: S) ∧ IsSet Try.prog 3 w2 bw (x :: W) ∧ Fr w w2 (fun i => i = bs ∨ i = bw) from ⟨hS2, hW2, (Fr.of_turned ht1 (.inl rfl)).trans (Fr.of_turned ht2 (.inr rfl))⟩)
  have hc2 := hg.c2
  have hc3 := hg1.c3
  clear hS hn ho hw hS1 hW1 hg1 hW2 hS2 ht1 ht2 hgw hne hW hg
  go_enter Try.func68, Try.ntmps68
  go_wp2
  go_ret
  exact ⟨rfl, hend.out⟩
end Go.Proofs.Ytphloehjcfipfaa.Cl
end

section
/- spreader.ask: what a clause asks for: the plain law. -/
set_option linter.unusedVariables false
set_option linter.unusedSimpArgs false
namespace Go.Proofs.Ytphloehjcfipfaa.Cl

/-- none: it asks for nothing; some 0: all its literals are false; some z: z alone is left. -/
def askLoop (S : List Int) : Int → List Int → Option Int
  | last, [] => some last
  | last, x :: r => if (S.contains (-x) || x == last) = true then askLoop S last r else if (S.contains x || last != 0) = true then none else askLoop S x r

theorem askLoop_some {S : List Int} : ∀ (c : List Int) (last z : Int), (∀ x ∈ c, x ≠ 0) → askLoop S last c = some z →
    (∀ y ∈ c, y = z ∨ -y ∈ S) ∧ (last ≠ 0 → z = last) ∧ (z = last ∨ (z ∈ c ∧ z ∉ S ∧ -z ∉ S))
  | [], last, z, _, h => by
    simp only [askLoop, Option.some.injEq] at h
    exact ⟨by simp, fun _ => h.symm, .inl h.symm⟩
  | x :: r, last, z, h0, h => by
    have h0r : ∀ y ∈ r, y ≠ 0 := fun y hy => h0 y (by simp [hy])
    have hx0 := h0 x (by simp)
    unfold askLoop at h
    by_cases h1 : (S.contains (-x) || x == last) = true
    · rw [if_pos h1] at h
      obtain ⟨i1, i2, i3⟩ := askLoop_some r last z h0r h
      refine ⟨fun y hy => ?_, i2, ?_⟩
      · rcases List.mem_cons.1 hy with rfl | hy
        · simp only [Bool.or_eq_true, List.contains_iff_mem, beq_iff_eq] at h1
          rcases h1 with h1 | h1
          · exact .inr h1
          · subst h1
            exact .inl (i2 hx0).symm
        · exact i1 y hy
      · rcases i3 with h | ⟨h, h', h''⟩
        · exact .inl h
        · exact .inr ⟨by simp [h], h', h''⟩
    · rw [if_neg h1] at h
      by_cases h2 : (S.contains x || last != 0) = true
      · rw [if_pos h2] at h
        cases h
      · rw [if_neg h2] at h
        simp only [Bool.or_eq_true, not_or, List.contains_iff_mem, bne_iff_ne, ne_eq, Decidable.not_not] at h1 h2
        obtain ⟨i1, i2, i3⟩ := askLoop_some r x z h0r h
        have hz : z = x := i2 hx0
        subst hz
        refine ⟨fun y hy => ?_, fun hl => absurd h2.2 hl, .inr ⟨by simp, h2.1, h1.1⟩⟩
        rcases List.mem_cons.1 hy with rfl | hy
        · exact .inl rfl
        · exact i1 y hy

theorem askLoop_none {S : List Int} : ∀ (c : List Int) (last : Int), (∀ x ∈ c, x ≠ 0) → askLoop S last c = none →
    (∃ x ∈ c, x ∈ S) ∨ (∃ u ∈ c, ∃ v ∈ c, u ≠ v ∧ -u ∉ S ∧ -v ∉ S) ∨ (last ≠ 0 ∧ ∃ u ∈ c, u ≠ last ∧ -u ∉ S)
  | [], last, _, h => by simp [askLoop] at h
  | x :: r, last, h0, h => by
    have h0r : ∀ y ∈ r, y ≠ 0 := fun y hy => h0 y (by simp [hy])
    have hx0 := h0 x (by simp)
    unfold askLoop at h
    by_cases h1 : (S.contains (-x) || x == last) = true
    · rw [if_pos h1] at h
      rcases askLoop_none r last h0r h with ⟨y, hy, hS⟩ | ⟨u, hu, v, hv, r1⟩ | ⟨hl, u, hu, r1⟩
      · exact .inl ⟨y, by simp [hy], hS⟩
      · exact .inr (.inl ⟨u, by simp [hu], v, by simp [hv], r1⟩)
      · exact .inr (.inr ⟨hl, u, by simp [hu], r1⟩)
    · rw [if_neg h1] at h
      simp only [Bool.or_eq_true, not_or, List.contains_iff_mem, beq_iff_eq] at h1
      by_cases h2 : (S.contains x || last != 0) = true
      · simp only [Bool.or_eq_true, List.contains_iff_mem, bne_iff_ne] at h2
        rcases h2 with h2 | h2
        · exact .inl ⟨x, by simp, h2⟩
        · exact .inr (.inr ⟨h2, x, by simp, h1.2, h1.1⟩)
      · rw [if_neg h2] at h
        rcases askLoop_none r x h0r h with ⟨y, hy, hS⟩ | ⟨u, hu, v, hv, r1⟩ | ⟨hl, u, hu, hne, hS⟩
        · exact .inl ⟨y, by simp [hy], hS⟩
        · exact .inr (.inl ⟨u, by simp [hu], v, by simp [hv], r1⟩)
        · exact .inr (.inl ⟨x, by simp, u, by simp [hu], fun e => hne e.symm, h1.1, hS⟩)

/-- What is to be done of a clause. -/
theorem ask_none {S c : List Int} (h0 : ∀ x ∈ c, x ≠ 0) (h : askLoop S 0 c = none) : Settled S c := by
  rcases askLoop_none c 0 h0 h with h | h | h
  · exact .inl h
  · exact .inr h
  · exact absurd rfl h.1
theorem ask_zero {S c : List Int} (h0 : ∀ x ∈ c, x ≠ 0) (h : askLoop S 0 c = some 0) : ∀ y ∈ c, -y ∈ S := fun y hy => by
  rcases (askLoop_some c 0 0 h0 h).1 y hy with h1 | h1
  · exact absurd h1 (h0 y hy)
  · exact h1
theorem ask_one {S c : List Int} {z : Int} (h0 : ∀ x ∈ c, x ≠ 0) (h : askLoop S 0 c = some z) (hz : z ≠ 0) : z ∈ c ∧ z ∉ S ∧ -z ∉ S ∧ ∀ y ∈ c, y ≠ z → -y ∈ S := by
  obtain ⟨h1, _, h3⟩ := askLoop_some c 0 z h0 h
  rcases h3 with h3 | ⟨h3, h4, h5⟩
  · exact absurd h3 hz
  · exact ⟨h3, h4, h5, fun y hy hne => (h1 y hy).resolve_left hne⟩
end Go.Proofs.Ytphloehjcfipfaa.Cl
end

section
/- spreader.ask: the walk: what a clause asks for, in a spreader's block. -/
set_option linter.unusedVariables false
set_option linter.unusedSimpArgs false
namespace Go.Proofs.Ytphloehjcfipfaa.Cl
open Go.RowKit Go.Maps Go.Proofs.YtphloehjcfipfaaW.PrintWords

def Lits (c : List Int) : Prop := ∀ x ∈ c, -1048576 ≤ x ∧ x ≤ 1048576 ∧ x ≠ 0
theorem lits_of {c : List Int} (h : cRight c = true) : Lits c := fun x hx => by
  have := List.all_eq_true.1 h x hx
  simp [litOk] at this
  omega

/-- What a call of 'ask' comes to. -/
def AskPost (S W c : List Int) (bs bw : Nat) (w : World) (e : Ending) (w' : World) : Prop :=
  (askLoop S 0 c = none ∧ e = .returned (.bool true) ∧ w' = w) ∨ (askLoop S 0 c = some 0 ∧ e = .returned (.bool false) ∧ w' = w) ∨
  ∃ z, z ≠ 0 ∧ askLoop S 0 c = some z ∧ e = .returned (.bool true) ∧ IsSet Try.prog 3 w' bs (z :: S) ∧ IsSet Try.prog 3 w' bw (z :: W) ∧ Fr w w' (fun i => i = bs ∨ i = bw)

/-- On the way: so much of the clause has been gone through. -/
def AskRel (S c : List Int) (k : Nat) (last : Int) : Prop := k ≤ c.length ∧ (last = 0 ∨ (last ∈ c ∧ last ∉ S ∧ -last ∉ S)) ∧ askLoop S last (c.drop k) = askLoop S 0 c
theorem AskRel.start (S c : List Int) : AskRel S c 0 0 := ⟨Nat.zero_le _, .inl rfl, rfl⟩
theorem ask_drop {c : List Int} {k : Nat} (h : k < c.length) : c.drop k = rd c k :: c.drop (k + 1) := by
  rw [List.drop_eq_getElem_cons h]
  simp [rd, List.getD_eq_getElem?_getD, List.getElem?_eq_getElem h]
theorem rd_mem {c : List Int} {k : Nat} (h : k < c.length) : rd c k ∈ c := by
  simp [rd, List.getD_eq_getElem?_getD, List.getElem?_eq_getElem h]
theorem AskRel.skip {S c : List Int} {k : Nat} {last : Int} (h : AskRel S c k last) (hk : k < c.length) (hx : (S.contains (-(rd c k)) || rd c k == last) = true) : AskRel S c (k + 1) last := by
  refine ⟨hk, h.2.1, ?_⟩
  rw [← h.2.2, ask_drop hk]
  simp only [askLoop]
  rw [if_pos hx]
theorem AskRel.take_ {S c : List Int} {k : Nat} {last : Int} (h : AskRel S c k last) (hk : k < c.length) (h1 : S.contains (-(rd c k)) = false) (h2 : (rd c k == last) = false) (h3 : S.contains (rd c k) = false) (h4 : last = 0) : AskRel S c (k + 1) (rd c k) := by
  refine ⟨hk, .inr ⟨rd_mem hk, by simpa using h3, by simpa using h1⟩, ?_⟩
  rw [← h.2.2, ask_drop hk]
  subst h4
  simp only [askLoop]
  rw [if_neg (by simp only [h1, h2]; decide), if_neg (by simp only [h3]; decide)]
theorem AskRel.stop {S c : List Int} {k : Nat} {last : Int} (h : AskRel S c k last) (hk : k < c.length) (h1 : S.contains (-(rd c k)) = false) (h2 : (rd c k == last) = false) (h3 : (S.contains (rd c k) || last != 0) = true) : askLoop S 0 c = none := by
  rw [← h.2.2, ask_drop hk]
  simp only [askLoop]
  rw [if_neg (by simp only [h1, h2]; decide), if_pos h3]
theorem AskRel.done {S c : List Int} {last : Int} (h : AskRel S c c.length last) : askLoop S 0 c = some last := by
  rw [← h.2.2, List.drop_length]
  rfl

set_option maxHeartbeats 2000000 in
theorem ask_calls {w : World} {g bi bs bw : Nat} {lv : Value} {S W : List Int} {A : Option Addr} {c : List Int} {cap : Nat} (hg : SpBlk w g lv bi bs bw) (hS : IsSet Try.prog 3 w bs S) (hW : IsSet Try.prog 3 w bw W) (hne : bs ≠ bw)
    (hlS : S.length < 9223372036854775807) (hlW : W.length < 9223372036854775807) (hWS : ∀ x ∈ W, x ∈ S) (hc : Lits c) (hC : Kd.C (Kd.int .i64) w A c.length c) (hcap : c.length ≤ cap) (hlen : c.length ≤ 9223372036854775807) :
    Calls Try.prog 69 #[.pointer (some ⟨g, 0, none⟩), .slice A c.length cap] w (AskPost S W c bs bw w) := by
  have HC := Lib.hid hc
  have HR := Aside0.mk hC
  clear hc hC
  have hc2 := hg.c2
  go_enter Try.func69, Try.ntmps69
  go_wp2
  go_loop [5, 14] (fun v5 v14 => ∃ (k : Nat) (last : Int), v5 = .int .i64 last ∧ v14 = .int .i64 k ∧ AskRel S c k last) (fun _ i => c.length - (intOf i).toNat)
  case atStart => exact ⟨0, 0, rfl, rfl, AskRel.start S c⟩
  case round =>
    obtain ⟨k, last, rfl, rfl, hr⟩ := hrel
    have hkl := hr.1
    by_cases hlt : k < c.length
    · have hx := HC.out _ (rd_mem hlt)
      obtain ⟨ad, e, hcell⟩ := Kd.at_int HR.out (k : Int) (by omega) (by omega)
      cases e
      rw [Int.toNat_natCast] at hcell
      have hmem : ∀ b, S.contains (-(rd c k)) = b → ∃ q : Int, (Instr.lookup 73 (.map (some bs)) (.int .i64 (-(rd c k))) true).run Try.prog w = .ok (.tuple #[.int .i64 q, .bool b]) w := fun b hb => by
        obtain ⟨q, hq⟩ := hS.look im (x := -(rd c k)) (wf_lit (by omega) (by omega))
        exact ⟨q, by rw [hq, hb]⟩
      have hmem2 : ∀ b, S.contains (rd c k) = b → ∃ q : Int, (Instr.lookup 73 (.map (some bs)) (.int .i64 (rd c k)) true).run Try.prog w = .ok (.tuple #[.int .i64 q, .bool b]) w := fun b hb => by
        obtain ⟨q, hq⟩ := hS.look im (x := rd c k) (wf_lit (by omega) (by omega))
        exact ⟨q, by rw [hq, hb]⟩
      cases h1 : S.contains (-(rd c k)) with
      | true =>
        obtain ⟨q1, hl1⟩ := hmem _ h1
        have hr' := hr.skip hlt (by rw [h1]; rfl)
        have HR' := Lib.hid hr'
        clear hr hr' hmem hmem2 h1
        go_wp2
        go_round
        case rel => exact ⟨k + 1, last, rfl, by go_num, HR'.out⟩
        case measure => simp [intOf]; omega
      | false =>
        obtain ⟨q1, hl1⟩ := hmem _ h1
        cases h2 : rd c k == last with
        | true =>
          have hr' := hr.skip hlt (by rw [h2]; simp)
          have HR' := Lib.hid hr'
          clear hr hr' hmem hmem2 h1
          go_wp2
          go_round
          case rel => exact ⟨k + 1, last, rfl, by go_num, HR'.out⟩
          case measure => simp [intOf]; omega
        | false =>
          cases h3 : S.contains (rd c k) with
          | true =>
            obtain ⟨q2, hl2⟩ := hmem2 _ h3
            have hf := Lib.hid (hr.stop hlt h1 h2 (by rw [h3]; rfl))
            clear hr hmem hmem2 h1 h3
            go_wp2
            go_ret
            exact .inl ⟨hf.out, rfl, rfl⟩
          | false =>
            obtain ⟨q2, hl2⟩ := hmem2 _ h3
            cases h4 : last != 0 with
            | true =>
              have hf := Lib.hid (hr.stop hlt h1 h2 (by rw [h4]; simp))
              clear hr hmem hmem2 h1 h3
              go_wp2
              go_ret
              exact .inl ⟨hf.out, rfl, rfl⟩
            | false =>
              have hr' := hr.take_ hlt h1 h2 h3 (by simpa using h4)
              have HR' := Lib.hid hr'
              clear hr hr' hmem hmem2 h1 h3
              go_wp2
              go_round
              case rel => exact ⟨k + 1, rd c k, rfl, by go_num, HR'.out⟩
              case measure => simp [intOf]; omega
    · have hk : k = c.length := by omega
      subst hk
      have hd := Lib.hid hr.done
      by_cases hz : last = 0
      · subst hz
        clear hr
        go_wp2
        go_ret
        exact .inr (.inl ⟨hd.out, rfl, rfl⟩)
      · have hb : (last != 0) = true := by simpa using hz
        obtain ⟨hm, hns, hno⟩ := hr.2.1.resolve_left hz
        have hx := HC.out _ hm
        have hcon := hold_new hg hS hW hne hlS hlW hx.1 hx.2.1 (by simpa using hno) (by simpa using hns) (by simpa using fun h => hns (hWS _ h))
        have HCON := Lib.hid hcon
        clear hr hcon hm hns hno hz
        go_wp2_with (go_at_call 68; refine (HCON.out).mono ?_; rintro e w' ⟨rfl, hq⟩)
        go_ret
        exact .inr (.inr ⟨last, by simpa using hb, hd.out, rfl, hq⟩)
end Go.Proofs.Ytphloehjcfipfaa.Cl
end
