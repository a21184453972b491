/- For the statement of the row ClauseBack: what its proof needs of the text B2. -/
import Derived.Test.YtnknoaolbjofiaaDoorKB1

section
namespace Go.Proofs.YtnknoaolbjofiaaDoor.X
open Go.RowKit Go.Proofs.YtnknoaolbjofiaaDoorW.PrintWords Go.Proofs.YtnknoaolbjofiaaDoorW.PrintLast Go.Proofs.YtnknoaolbjofiaaDoorW.PrintMore
attribute [local go_sem] max2_int min2_int max_two min_two max_three min_three max_four min_four
set_option linter.unusedVariables false
set_option linter.unusedSimpArgs false
mutual
def backreachref14_Spread.j0 : Nat → List (List Int) → List Int → Bool → Option (List Int × Bool)
  | 0, _, _, _ => none
  | k + 1, x0, x1, x23 => if x23 = true then (some (([] : List Int), false)) else ((some (([] : List (List Int)) : List (List Int))).bind fun y141 => (if y141.length + x0.length < 5864062014805 then ((some (y141 ++ x0 : List (List Int))).bind fun y144 => (if y144.length < 5864062014805 then ((backreachref14_Most.f k (y144 ++ [x1])).bind fun t150 => (if 0 ≤ (wrap64 (t150 + 1)) then (if (wrap64 (t150 + 1) : Int).toNat ≤ 35184372088832 then (backreachref14_Spread.l0 k x0 x1 t150 (List.replicate (wrap64 (t150 + 1) : Int).toNat 0) 0) else (none)) else (none))) else (none))) else (none)))
def backreachref14_Spread.l0 : Nat → List (List Int) → List Int → Int → List Int → Int → Option (List Int × Bool)
  | 0, _, _, _, _, _ => none
  | k + 1, x0, x1, x6, x7, x8 => if x8 < (x1.length : Int) then (if 0 ≤ x8 then ((backreachref14_Var.f (rd x1 x8)).bind fun t155 => (if 0 ≤ t155 then (if t155 < (x7.length : Int) then (if (rd x7 t155) = 0 then ((backreachref14_sign.f (rd x1 x8)).bind fun t158 => (backreachref14_Spread.l0 k x0 x1 x6 (x7.set (t155 : Int).toNat t158) (wrap64 (x8 + 1)))) else ((backreachref14_sign.f (rd x1 x8)).bind fun t162 => (if (rd x7 t155) = t162 then ((backreachref14_sign.f (rd x1 x8)).bind fun t164 => (backreachref14_Spread.l0 k x0 x1 x6 (x7.set (t155 : Int).toNat t164) (wrap64 (x8 + 1)))) else (some (([] : List Int), false))))) else (none)) else (none))) else (none)) else (backreachref14_Spread.l1 k x0 x6 x7 true)
def backreachref14_Spread.l1 : Nat → List (List Int) → Int → List Int → Bool → Option (List Int × Bool)
  | 0, _, _, _, _ => none
  | k + 1, x0, x6, x7, x10 => if x10 = true then (backreachref14_Spread.l2 k x0 x6 x7 false 0) else (backreachref14_Spread.l3 k x6 x7 ([] : List Int) 1)
def backreachref14_Spread.l2 : Nat → List (List Int) → Int → List Int → Bool → Int → Option (List Int × Bool)
  | 0, _, _, _, _, _ => none
  | k + 1, x0, x6, x7, x10, x11 => if x11 < (x0.length : Int) then (if 0 ≤ x11 then ((backreachref14_left.f k (rd_L1 x0 x11) x7).bind fun t167 => (if (t167.length : Int) = 0 then (some (([] : List Int), false)) else (if (t167.length : Int) = 1 then (if 0 < (t167.length : Int) then ((backreachref14_Var.f (rd t167 0)).bind fun t171 => (if 0 ≤ t171 then (if t171 < (x7.length : Int) then (backreachref14_Spread.j4 k x0 x6 x7 x10 x11 t167 ((rd x7 t171) == 0)) else (none)) else (none))) else (none)) else (backreachref14_Spread.j4 k x0 x6 x7 x10 x11 t167 false)))) else (none)) else (backreachref14_Spread.l1 k x0 x6 x7 x10)
def backreachref14_Spread.j4 : Nat → List (List Int) → Int → List Int → Bool → Int → List Int → Bool → Option (List Int × Bool)
  | 0, _, _, _, _, _, _, _ => none
  | k + 1, x0, x6, x7, x10, x11, x12, x98 => if x98 = true then (if 0 < (x12.length : Int) then ((backreachref14_Var.f (rd x12 0)).bind fun t174 => ((backreachref14_sign.f (rd x12 0)).bind fun t176 => (if 0 ≤ t174 then (if t174 < (x7.length : Int) then (backreachref14_Spread.l2 k x0 x6 (x7.set (t174 : Int).toNat t176) true (wrap64 (x11 + 1))) else (none)) else (none)))) else (none)) else (backreachref14_Spread.l2 k x0 x6 x7 x10 (wrap64 (x11 + 1)))
def backreachref14_Spread.l3 : Nat → Int → List Int → List Int → Int → Option (List Int × Bool)
  | 0, _, _, _, _ => none
  | k + 1, x6, x7, x13, x14 => if x14 ≤ x6 then (if 0 ≤ x14 then (if x14 < (x7.length : Int) then (if (rd x7 x14) = 0 then (backreachref14_Spread.l3 k x6 x7 x13 (wrap64 (x14 + 1))) else (if x13.length < 17592186044416 then (backreachref14_Spread.l3 k x6 x7 (x13 ++ [wrap64 ((rd x7 x14) * x14)]) (wrap64 (x14 + 1))) else (none))) else (none)) else (none)) else (some (x13, true))
end
def backreachref14_Spread.f (k : Nat) (l0 : List (List Int)) (l1 : List Int) : Option (List Int × Bool) := (backreachref14_Right.f k l0).bind fun t136 => (if t136 = true then ((backreachref14_Right.f k (([l1] : List (List Int)))).bind fun t140 => (backreachref14_Spread.j0 k l0 l1 (!t140))) else (backreachref14_Spread.j0 k l0 l1 true))
theorem backreachref14_Spread.mono_l : ∀ k, (∀ y0 y1 y2, LeO (backreachref14_Spread.j0 k y0 y1 y2) (backreachref14_Spread.j0 (k + 1) y0 y1 y2)) ∧ (∀ y0 y1 y2 y3 y4, LeO (backreachref14_Spread.l0 k y0 y1 y2 y3 y4) (backreachref14_Spread.l0 (k + 1) y0 y1 y2 y3 y4)) ∧ (∀ y0 y1 y2 y3, LeO (backreachref14_Spread.l1 k y0 y1 y2 y3) (backreachref14_Spread.l1 (k + 1) y0 y1 y2 y3)) ∧ (∀ y0 y1 y2 y3 y4, LeO (backreachref14_Spread.l2 k y0 y1 y2 y3 y4) (backreachref14_Spread.l2 (k + 1) y0 y1 y2 y3 y4)) ∧ (∀ y0 y1 y2 y3 y4 y5 y6, LeO (backreachref14_Spread.j4 k y0 y1 y2 y3 y4 y5 y6) (backreachref14_Spread.j4 (k + 1) y0 y1 y2 y3 y4 y5 y6)) ∧ (∀ y0 y1 y2 y3, LeO (backreachref14_Spread.l3 k y0 y1 y2 y3) (backreachref14_Spread.l3 (k + 1) y0 y1 y2 y3))
  | 0 => ⟨fun _ _ _ r h => by simp [backreachref14_Spread.j0] at h, fun _ _ _ _ _ r h => by simp [backreachref14_Spread.l0] at h, fun _ _ _ _ r h => by simp [backreachref14_Spread.l1] at h, fun _ _ _ _ _ r h => by simp [backreachref14_Spread.l2] at h, fun _ _ _ _ _ _ _ r h => by simp [backreachref14_Spread.j4] at h, fun _ _ _ _ r h => by simp [backreachref14_Spread.l3] at h⟩
  | k + 1 => by
    obtain ⟨ih0, ih1, ih2, ih3, ih4, ih5⟩ := backreachref14_Spread.mono_l k
    refine ⟨?_, ?_, ?_, ?_, ?_, ?_⟩
    · intro y0 y1 y2
      unfold backreachref14_Spread.j0
      repeat' first
      | (with_reducible exact ih0 _ _ _)
      | (with_reducible exact ih1 _ _ _ _ _)
      | (with_reducible exact ih2 _ _ _ _)
      | (with_reducible exact ih3 _ _ _ _ _)
      | (with_reducible exact ih4 _ _ _ _ _ _ _)
      | (with_reducible exact ih5 _ _ _ _)
      | (with_reducible exact backreachref14_Most.mono _ _)
      | (with_reducible exact backreachref14_Right.mono _ _)
      | (with_reducible exact backreachref14_left.mono _ _ _)
      | (with_reducible exact LeO.refl _)
      | (with_reducible exact LeO.none _)
      | (with_reducible refine LeO.ite ?_ ?_)
      | (with_reducible refine LeO.bind ?_ (fun _ => ?_))
      | exact ih0 _ _ _
      | exact ih1 _ _ _ _ _
      | exact ih2 _ _ _ _
      | exact ih3 _ _ _ _ _
      | exact ih4 _ _ _ _ _ _ _
      | exact ih5 _ _ _ _
      | exact backreachref14_Most.mono _ _
      | exact backreachref14_Right.mono _ _
      | exact backreachref14_left.mono _ _ _
      | exact LeO.none _
      | refine LeO.ite ?_ ?_
      | refine LeO.bind ?_ (fun _ => ?_)
    · intro y0 y1 y2 y3 y4
      unfold backreachref14_Spread.l0
      repeat' first
      | (with_reducible exact ih0 _ _ _)
      | (with_reducible exact ih1 _ _ _ _ _)
      | (with_reducible exact ih2 _ _ _ _)
      | (with_reducible exact ih3 _ _ _ _ _)
      | (with_reducible exact ih4 _ _ _ _ _ _ _)
      | (with_reducible exact ih5 _ _ _ _)
      | (with_reducible exact backreachref14_Most.mono _ _)
      | (with_reducible exact backreachref14_Right.mono _ _)
      | (with_reducible exact backreachref14_left.mono _ _ _)
      | (with_reducible exact LeO.refl _)
      | (with_reducible exact LeO.none _)
      | (with_reducible refine LeO.ite ?_ ?_)
      | (with_reducible refine LeO.bind ?_ (fun _ => ?_))
      | exact ih0 _ _ _
      | exact ih1 _ _ _ _ _
      | exact ih2 _ _ _ _
      | exact ih3 _ _ _ _ _
      | exact ih4 _ _ _ _ _ _ _
      | exact ih5 _ _ _ _
      | exact backreachref14_Most.mono _ _
      | exact backreachref14_Right.mono _ _
      | exact backreachref14_left.mono _ _ _
      | exact LeO.none _
      | refine LeO.ite ?_ ?_
      | refine LeO.bind ?_ (fun _ => ?_)
    · intro y0 y1 y2 y3
      unfold backreachref14_Spread.l1
      repeat' first
      | (with_reducible exact ih0 _ _ _)
      | (with_reducible exact ih1 _ _ _ _ _)
      | (with_reducible exact ih2 _ _ _ _)
      | (with_reducible exact ih3 _ _ _ _ _)
      | (with_reducible exact ih4 _ _ _ _ _ _ _)
      | (with_reducible exact ih5 _ _ _ _)
      | (with_reducible exact backreachref14_Most.mono _ _)
      | (with_reducible exact backreachref14_Right.mono _ _)
      | (with_reducible exact backreachref14_left.mono _ _ _)
      | (with_reducible exact LeO.refl _)
      | (with_reducible exact LeO.none _)
      | (with_reducible refine LeO.ite ?_ ?_)
      | (with_reducible refine LeO.bind ?_ (fun _ => ?_))
      | exact ih0 _ _ _
      | exact ih1 _ _ _ _ _
      | exact ih2 _ _ _ _
      | exact ih3 _ _ _ _ _
      | exact ih4 _ _ _ _ _ _ _
      | exact ih5 _ _ _ _
      | exact backreachref14_Most.mono _ _
      | exact backreachref14_Right.mono _ _
      | exact backreachref14_left.mono _ _ _
      | exact LeO.none _
      | refine LeO.ite ?_ ?_
      | refine LeO.bind ?_ (fun _ => ?_)
    · intro y0 y1 y2 y3 y4
      unfold backreachref14_Spread.l2
      repeat' first
      | (with_reducible exact ih0 _ _ _)
      | (with_reducible exact ih1 _ _ _ _ _)
      | (with_reducible exact ih2 _ _ _ _)
      | (with_reducible exact ih3 _ _ _ _ _)
      | (with_reducible exact ih4 _ _ _ _ _ _ _)
      | (with_reducible exact ih5 _ _ _ _)
      | (with_reducible exact backreachref14_Most.mono _ _)
      | (with_reducible exact backreachref14_Right.mono _ _)
      | (with_reducible exact backreachref14_left.mono _ _ _)
      | (with_reducible exact LeO.refl _)
      | (with_reducible exact LeO.none _)
      | (with_reducible refine LeO.ite ?_ ?_)
      | (with_reducible refine LeO.bind ?_ (fun _ => ?_))
      | exact ih0 _ _ _
      | exact ih1 _ _ _ _ _
      | exact ih2 _ _ _ _
      | exact ih3 _ _ _ _ _
      | exact ih4 _ _ _ _ _ _ _
      | exact ih5 _ _ _ _
      | exact backreachref14_Most.mono _ _
      | exact backreachref14_Right.mono _ _
      | exact backreachref14_left.mono _ _ _
      | exact LeO.none _
      | refine LeO.ite ?_ ?_
      | refine LeO.bind ?_ (fun _ => ?_)
    · intro y0 y1 y2 y3 y4 y5 y6
      unfold backreachref14_Spread.j4
      repeat' first
      | (with_reducible exact ih0 _ _ _)
      | (with_reducible exact ih1 _ _ _ _ _)
      | (with_reducible exact ih2 _ _ _ _)
      | (with_reducible exact ih3 _ _ _ _ _)
      | (with_reducible exact ih4 _ _ _ _ _ _ _)
      | (with_reducible exact ih5 _ _ _ _)
      | (with_reducible exact backreachref14_Most.mono _ _)
      | (with_reducible exact backreachref14_Right.mono _ _)
      | (with_reducible exact backreachref14_left.mono _ _ _)
      | (with_reducible exact LeO.refl _)
      | (with_reducible exact LeO.none _)
      | (with_reducible refine LeO.ite ?_ ?_)
      | (with_reducible refine LeO.bind ?_ (fun _ => ?_))
      | exact ih0 _ _ _
      | exact ih1 _ _ _ _ _
      | exact ih2 _ _ _ _
      | exact ih3 _ _ _ _ _
      | exact ih4 _ _ _ _ _ _ _
      | exact ih5 _ _ _ _
      | exact backreachref14_Most.mono _ _
      | exact backreachref14_Right.mono _ _
      | exact backreachref14_left.mono _ _ _
      | exact LeO.none _
      | refine LeO.ite ?_ ?_
      | refine LeO.bind ?_ (fun _ => ?_)
    · intro y0 y1 y2 y3
      unfold backreachref14_Spread.l3
      repeat' first
      | (with_reducible exact ih0 _ _ _)
      | (with_reducible exact ih1 _ _ _ _ _)
      | (with_reducible exact ih2 _ _ _ _)
      | (with_reducible exact ih3 _ _ _ _ _)
      | (with_reducible exact ih4 _ _ _ _ _ _ _)
      | (with_reducible exact ih5 _ _ _ _)
      | (with_reducible exact backreachref14_Most.mono _ _)
      | (with_reducible exact backreachref14_Right.mono _ _)
      | (with_reducible exact backreachref14_left.mono _ _ _)
      | (with_reducible exact LeO.refl _)
      | (with_reducible exact LeO.none _)
      | (with_reducible refine LeO.ite ?_ ?_)
      | (with_reducible refine LeO.bind ?_ (fun _ => ?_))
      | exact ih0 _ _ _
      | exact ih1 _ _ _ _ _
      | exact ih2 _ _ _ _
      | exact ih3 _ _ _ _ _
      | exact ih4 _ _ _ _ _ _ _
      | exact ih5 _ _ _ _
      | exact backreachref14_Most.mono _ _
      | exact backreachref14_Right.mono _ _
      | exact backreachref14_left.mono _ _ _
      | exact LeO.none _
      | refine LeO.ite ?_ ?_
      | refine LeO.bind ?_ (fun _ => ?_)
theorem backreachref14_Spread.mono : ∀ a0 a1 k, LeO (backreachref14_Spread.f k a0 a1) (backreachref14_Spread.f (k + 1) a0 a1) := by
  intro a0 a1 k
  obtain ⟨ih0, ih1, ih2, ih3, ih4, ih5⟩ := backreachref14_Spread.mono_l k
  unfold backreachref14_Spread.f
  repeat' first
      | (with_reducible exact ih0 _ _ _)
      | (with_reducible exact ih1 _ _ _ _ _)
      | (with_reducible exact ih2 _ _ _ _)
      | (with_reducible exact ih3 _ _ _ _ _)
      | (with_reducible exact ih4 _ _ _ _ _ _ _)
      | (with_reducible exact ih5 _ _ _ _)
      | (with_reducible exact backreachref14_Most.mono _ _)
      | (with_reducible exact backreachref14_Right.mono _ _)
      | (with_reducible exact backreachref14_left.mono _ _ _)
      | (with_reducible exact LeO.refl _)
      | (with_reducible exact LeO.none _)
      | (with_reducible refine LeO.ite ?_ ?_)
      | (with_reducible refine LeO.bind ?_ (fun _ => ?_))
      | exact ih0 _ _ _
      | exact ih1 _ _ _ _ _
      | exact ih2 _ _ _ _
      | exact ih3 _ _ _ _ _
      | exact ih4 _ _ _ _ _ _ _
      | exact ih5 _ _ _ _
      | exact backreachref14_Most.mono _ _
      | exact backreachref14_Right.mono _ _
      | exact backreachref14_left.mono _ _ _
      | exact LeO.none _
      | refine LeO.ite ?_ ?_
      | refine LeO.bind ?_ (fun _ => ?_)
def backreachref14_Spread.T9 : Bool × List (List Nat × List Nat) := (true, [([], []), ([], []), ([0, 1], [0, 1]), ([2], [2]), ([3], [3]), ([4], [4]), ([5], [5]), ([5], [5]), ([6, 7, 5], [5, 6, 7]), ([8, 5], [5, 8]), ([5], [5]), ([5], [5]), ([10, 11, 5], [5, 10, 11]), ([12, 5], [5, 12]), ([13, 5, 5], [5, 13]), ([9, 14, 5], [5, 9, 14]), ([5, 15], [5, 15])])
def backreachref14_Spread.B9 : List Nat := [0, 0, 3, 7, 15, 31, 63, 63, 255, 511, 63, 63, 3135, 7231, 15423, 32767, 65535]
theorem backreachref14_Spread.tab9 : rtab .any (opsOf Tryd.f13 9) = backreachref14_Spread.T9 := by kernel_rfl
theorem backreachref14_Spread.bits9 : waitsOk backreachref14_Spread.T9.2 backreachref14_Spread.B9 = true := by kernel_rfl
def backreachref14_Spread.T22 : Bool × List (List Nat × List Nat) := (true, [([], []), ([], []), ([1], [1]), ([2], [2]), ([3], [3]), ([], []), ([5], [5]), ([6], [6]), ([7, 4], [7]), ([0, 4, 0, 1, 2, 3, 4, 5, 6, 7, 8], [0, 4]), ([9, 8, 8, 0, 1, 2, 3, 4, 5, 6, 7, 8], [8, 9])])
def backreachref14_Spread.B22 : List Nat := [0, 0, 2, 6, 14, 0, 32, 96, 254, 511, 1023]
theorem backreachref14_Spread.tab22 : rtab .any (opsOf Tryd.f13 22) = backreachref14_Spread.T22 := by kernel_rfl
theorem backreachref14_Spread.bits22 : waitsOk backreachref14_Spread.T22.2 backreachref14_Spread.B22 = true := by kernel_rfl
/-- A list of one list, as it lies in memory. -/
theorem lit_row {W : World} {b A} {cap : Nat} {c : List Int} (hc : Kd.C (Kd.int .i64) W A c.length c) (hcap : c.length ≤ cap) (hcell : W.cell? ⟨b, 0, none⟩ = some (.slice A c.length cap)) : Kd.C (Kd.slice 3 (Kd.int .i64)) W (some ⟨b, 0, none⟩) ([c] : List (List Int)).length [c] :=
  ⟨rfl, by simp, fun _ => ⟨_, rfl, fun j p hj => by
    have hj0 : j = 0 := by
      have := (List.getElem?_eq_some_iff.1 hj).1
      simpa using this
    subst hj0
    have hp : c = p := by simpa using hj
    subst hp
    refine ⟨[.slice A c.length cap], rfl, ⟨A, cap, rfl, hcap, hc⟩, fun i u hu => ?_⟩
    have hi0 : i = 0 := by
      have := (List.getElem?_eq_some_iff.1 hu).1
      simpa using this
    subst hi0
    have hu : Value.slice A c.length cap = u := by simpa using hu
    rw [hu] at hcell
    simpa [Kd.slice, Addr.add] using hcell⟩⟩
set_option maxHeartbeats 8000000 in
set_option maxRecDepth 100000 in
theorem backreachref14_Spread.calls (k : Nat) (P0_ : Nat → Prop) (A0 : Option Addr) (c0 : Nat) (l0 : List (List Int)) (P1_ : Nat → Prop) (A1 : Option Addr) (c1 : Nat) (l1 : List Int) (r1 : List Int) (r2 : Bool) (w : World) (hs0 : Kd.V (Kd.slice 3 (Kd.int .i64)) 23 w w.heap.size (fun k_ => P0_ k_) (.slice A0 l0.length c0) l0) (hs1 : Kd.V (Kd.int .i64) 3 w w.heap.size (fun k_ => P1_ k_) (.slice A1 l1.length c1) l1) (h : backreachref14_Spread.f k l0 l1 = some (r1, r2)) :
    Calls Tryd.prog 13 #[.slice A0 l0.length c0, .slice A1 l1.length c1] w fun e w' => ∃ v0_ : Value, e = .returned (.tuple #[v0_, .bool r2]) ∧ Kd.R (Kd.int .i64) 3 w' w.heap.size (fun k_ => (w.heap.size ≤ k_)) v0_ r1 ∧ Below w.heap.size w w' := by
  have HO0 := Aside0.mk (show Kd.V (Kd.slice 3 (Kd.int .i64)) 23 w w.heap.size (fun k_ => ((P0_ k_ ∨ P1_ k_) ∨ w.heap.size ≤ k_)) (.slice A0 l0.length c0) l0 from Kd.V_mono hs0 (fun k_ hk => .inl (.inl hk)))
  have HO1 := Aside0.mk (show Kd.V (Kd.int .i64) 3 w w.heap.size (fun k_ => ((P0_ k_ ∨ P1_ k_) ∨ w.heap.size ≤ k_)) (.slice A1 l1.length c1) l1 from Kd.V_mono hs1 (fun k_ hk => .inl (.inr hk)))
  have HB := Aside0.mk (Below.refl w.heap.size w)
  have H : ((backreachref14_Right.f k l0).bind fun t136 => (if t136 = true then ((backreachref14_Right.f k (([l1] : List (List Int)))).bind fun t140 => (backreachref14_Spread.j0 k l0 l1 (!t140))) else (backreachref14_Spread.j0 k l0 l1 true))) = some (r1, r2) := h
  clear h
  have HC3 := Aside0.mk H
  clear H
  go_enter Tryd.func13, Tryd.ntmps13
  go_upto_region 1 with (fail)
  go_cut [23] (fun v23 wc => ∃ (kq : Nat) (x23_2 : Bool), v23 = .bool x23_2 ∧ Aside0 (backreachref14_Spread.j0 kq l0 l1 x23_2 = some (r1, r2)) ∧ Aside0 (kq ≤ k) ∧ Aside0 (Kd.V (Kd.slice 3 (Kd.int .i64)) 23 wc w.heap.size (fun k_ => ((P0_ k_ ∨ P1_ k_) ∨ w.heap.size ≤ k_)) (.slice A0 l0.length c0) l0) ∧ Aside0 (Kd.V (Kd.int .i64) 3 wc w.heap.size (fun k_ => ((P0_ k_ ∨ P1_ k_) ∨ w.heap.size ≤ k_)) (.slice A1 l1.length c1) l1) ∧ Aside0 (Below w.heap.size w wc))
  case first =>
    have H := HC3.out
    clear HC3
    replace H := Option.bind_eq_some_iff.mp H
    obtain ⟨t136, A40, H⟩ := H
    replace H : (if t136 = true then ((backreachref14_Right.f k (([l1] : List (List Int)))).bind fun t140 => (backreachref14_Spread.j0 k l0 l1 (!t140))) else (backreachref14_Spread.j0 k l0 l1 true)) = some (r1, r2) := H
    have A4 := Aside0.mk A40
    clear A40
    by_cases c5 : t136 = true
    · subst c5
      have H1 : ((backreachref14_Right.f k (([l1] : List (List Int)))).bind fun t140 => (backreachref14_Spread.j0 k l0 l1 (!t140))) = some (r1, r2) := by rw [if_pos rfl] at H; exact H
      clear H
      have H := H1
      clear H1
      obtain ⟨y137, hy137⟩ : ∃ y_ : List (List Int), y_ = (([l1] : List (List Int))) := ⟨_, rfl⟩
      replace H : ((backreachref14_Right.f k y137).bind fun t140 => (backreachref14_Spread.j0 k l0 l1 (!t140))) = some (r1, r2) := by first | (rw [hy137]; with_reducible exact H) | (have H2_ := (Option.bind_some _ _).symm.trans H; rw [hy137]; with_reducible exact H2_) | (have H2_ := (Option.bind_some _ _).symm.trans H; with_reducible exact H2_) | with_reducible exact H | (rw [hy137]; exact H) | exact H
      have Ny137 := Aside0.mk hy137
      clear hy137
      replace H := Option.bind_eq_some_iff.mp H
      obtain ⟨t140, A60, H⟩ := H
      replace H : (backreachref14_Spread.j0 k l0 l1 (!t140)) = some (r1, r2) := H
      have A6 := Aside0.mk A60
      clear A60
      have H' := Aside0.mk H
      clear H
      have AY : backreachref14_Right.f k [l1] = some t140 := by rw [← Ny137.out]; exact A6.out
      have HLT : ∀ n : Nat, Kd.C (Kd.slice 3 (Kd.int .i64)) ((w.drewN n).alloc (.cells #[.slice A1 l1.length c1] 23)) (some ⟨w.heap.size, 0, none⟩) ([l1] : List (List Int)).length [l1] := fun n => lit_row (c := l1) (Kd.C_alloc (Kd.C_drewN (Kd.V_reads' HO1.out).2.2 n) _) (Kd.V_reads' HO1.out).2.1 (by rw [show w.heap.size = (w.drewN n).heap.size from rfl]; simp [World.cell?, World.alloc])
      go_wp2_with (first | ((with_reducible refine gate_callee (f := 21) rfl ?_); refine goesL_ (some 16) rfl rfl Tryd.func21 (by kernel_rfl) rfl #[.slice A0 l0.length c0] rfl (by (try simp only [List.map_toArray, List.map_cons, List.map_nil]); first | done | rfl | (simp only [List.length_drop, List.length_take]; rfl)) ?_; (with_reducible refine (backreachref14_Right.calls k _ _ l0 true _ ?side1 ?side2 A4.out).mono ?_); (case side1 => repeat (first | exact (Kd.V_reads' HO0.out).2.2 | (with_reducible refine Kd.C_alloc ?_ _) | (with_reducible refine Kd.C_drewN ?_ _) | (with_reducible refine Kd.C_drew ?_))); (case side2 => exact (Kd.V_reads' HO0.out).2.1); rintro e w' ⟨rfl, ⟨nd, rfl⟩⟩; refine ⟨_, rfl, ?_⟩) | (go_at_call 21; show Calls Tryd.prog 21 #[.slice (some ⟨w.heap.size, 0, none⟩) ([l1] : List (List Int)).length 1] _ _; refine (backreachref14_Right.calls k _ 1 [l1] t140 _ (HLT _) (Nat.le_refl 1) AY).mono ?_; rintro e w' ⟨rfl, ⟨nd, rfl⟩⟩))
      go_meet
      case rel => exact ⟨_, (!t140), (by first | rfl | (simp; done) | (simp [*]; done)), H', ⟨by first | omega | exact Nat.le_refl _⟩, ⟨by (with_reducible repeat (first | apply Kd.V_alloc | apply Kd.V_drewN | apply Kd.V_drew)); exact HO0.out⟩, ⟨by (with_reducible repeat (first | apply Kd.V_alloc | apply Kd.V_drewN | apply Kd.V_drew)); exact HO1.out⟩, ⟨by repeat (first | (with_reducible first | exact HB.out | apply below_alloc | apply pw_below_drewN | apply below_drew1) | exact HB.out)⟩⟩
    · replace c5 := Bool.eq_false_iff.mpr c5
      subst c5
      have H1 : (backreachref14_Spread.j0 k l0 l1 true) = some (r1, r2) := by rw [if_neg (show ¬ (false = true) by decide)] at H; exact H
      clear H
      have H := H1
      clear H1
      have H' := Aside0.mk H
      clear H
      go_wp2_with (first | ((with_reducible refine gate_callee (f := 21) rfl ?_); refine goesL_ (some 16) rfl rfl Tryd.func21 (by kernel_rfl) rfl #[.slice A0 l0.length c0] rfl (by (try simp only [List.map_toArray, List.map_cons, List.map_nil]); first | done | rfl | (simp only [List.length_drop, List.length_take]; rfl)) ?_; (with_reducible refine (backreachref14_Right.calls k _ _ l0 false _ ?side1 ?side2 A4.out).mono ?_); (case side1 => repeat (first | exact (Kd.V_reads' HO0.out).2.2 | (with_reducible refine Kd.C_alloc ?_ _) | (with_reducible refine Kd.C_drewN ?_ _) | (with_reducible refine Kd.C_drew ?_))); (case side2 => exact (Kd.V_reads' HO0.out).2.1); rintro e w' ⟨rfl, ⟨nd, rfl⟩⟩; refine ⟨_, rfl, ?_⟩))
      go_meet
      case rel => exact ⟨_, (true), (by first | rfl | (simp; done) | (simp [*]; done)), H', ⟨by first | omega | exact Nat.le_refl _⟩, ⟨by (with_reducible repeat (first | apply Kd.V_alloc | apply Kd.V_drewN | apply Kd.V_drew)); exact HO0.out⟩, ⟨by (with_reducible repeat (first | apply Kd.V_alloc | apply Kd.V_drewN | apply Kd.V_drew)); exact HO1.out⟩, ⟨by repeat (first | (with_reducible first | exact HB.out | apply below_alloc | apply pw_below_drewN | apply below_drew1) | exact HB.out)⟩⟩
  case rest =>
    clear HC3
    try clear c1
    try clear c2
    try clear p2
    try clear c5
    obtain ⟨kq, x23_2, rfl, HA, HJ2, HO_0, HO_1, HB⟩ := hcut
    cases kq with
    | zero => exact absurd HA.out (by simp [backreachref14_Spread.j0])
    | succ kj2 =>
      have H := HA.out
      clear HA
      simp only [backreachref14_Spread.j0] at H
      by_cases c10 : x23_2 = true
      · subst c10
        have H1 : (some (([] : List Int), false)) = some (r1, r2) := by rw [if_pos rfl] at H; exact H
        clear H
        have H := H1
        clear H1
        simp only [Option.some.injEq, Prod.mk.injEq] at H
        obtain ⟨rfl, rfl⟩ := H
        go_wp2
        go_ret2
        exact ⟨_, by first | rfl | (simp [errW_none, errW_some] <;> rfl) | (simp [*, errW_none, errW_some] <;> rfl), by first | exact Kd.R_nil _ _ _ _ _ | exact Kd.N_nil _ _ _ _ _ | exact Kd.V_nil _ _ _ _ _ | exact Kd.Q_nil _ _ _ _ _ | exact Kd.S_nil _ _ _ _ _, by repeat (first | (with_reducible first | exact HB.out | apply below_alloc | apply pw_below_drewN | apply below_drew1) | exact HB.out)⟩
      · replace c10 := Bool.eq_false_iff.mpr c10
        subst c10
        have H1 : ((some (([] : List (List Int)) : List (List Int))).bind fun y141 => (if y141.length + l0.length < 5864062014805 then ((some (y141 ++ l0 : List (List Int))).bind fun y144 => (if y144.length < 5864062014805 then ((backreachref14_Most.f kj2 (y144 ++ [l1])).bind fun t150 => (if 0 ≤ (wrap64 (t150 + 1)) then (if (wrap64 (t150 + 1) : Int).toNat ≤ 35184372088832 then (backreachref14_Spread.l0 kj2 l0 l1 t150 (List.replicate (wrap64 (t150 + 1) : Int).toNat 0) 0) else (none)) else (none))) else (none))) else (none))) = some (r1, r2) := by rw [if_neg (show ¬ (false = true) by decide)] at H; exact H
        clear H
        have H := H1
        clear H1
        obtain ⟨y141, hy141⟩ : ∃ y_ : List (List Int), y_ = (([] : List (List Int))) := ⟨_, rfl⟩
        replace H : (if y141.length + l0.length < 5864062014805 then ((some (y141 ++ l0 : List (List Int))).bind fun y144 => (if y144.length < 5864062014805 then ((backreachref14_Most.f kj2 (y144 ++ [l1])).bind fun t150 => (if 0 ≤ (wrap64 (t150 + 1)) then (if (wrap64 (t150 + 1) : Int).toNat ≤ 35184372088832 then (backreachref14_Spread.l0 kj2 l0 l1 t150 (List.replicate (wrap64 (t150 + 1) : Int).toNat 0) 0) else (none)) else (none))) else (none))) else (none)) = some (r1, r2) := by first | (rw [hy141]; with_reducible exact H) | (have H2_ := (Option.bind_some _ _).symm.trans H; rw [hy141]; with_reducible exact H2_) | (have H2_ := (Option.bind_some _ _).symm.trans H; with_reducible exact H2_) | with_reducible exact H | (rw [hy141]; exact H) | exact H
        have Ny141 := Aside0.mk hy141
        clear hy141
        by_cases c11 : y141.length + l0.length < 5864062014805
        · rw [if_pos c11] at H
          have LMc11 := Aside0.mk c11
          clear c11
          obtain ⟨y144, hy144⟩ : ∃ y_ : List (List Int), y_ = (y141 ++ l0) := ⟨_, rfl⟩
          replace H : (if y144.length < 5864062014805 then ((backreachref14_Most.f kj2 (y144 ++ [l1])).bind fun t150 => (if 0 ≤ (wrap64 (t150 + 1)) then (if (wrap64 (t150 + 1) : Int).toNat ≤ 35184372088832 then (backreachref14_Spread.l0 kj2 l0 l1 t150 (List.replicate (wrap64 (t150 + 1) : Int).toNat 0) 0) else (none)) else (none))) else (none)) = some (r1, r2) := by first | (rw [hy144]; with_reducible exact H) | (have H2_ := (Option.bind_some _ _).symm.trans H; rw [hy144]; with_reducible exact H2_) | (have H2_ := (Option.bind_some _ _).symm.trans H; with_reducible exact H2_) | with_reducible exact H | (rw [hy144]; exact H) | exact H
          have Ny144 := Aside0.mk hy144
          clear hy144
          by_cases c12 : y144.length < 5864062014805
          · rw [if_pos c12] at H
            have LMc12 := Aside0.mk c12
            clear c12
            obtain ⟨y147, hy147⟩ : ∃ y_ : List (List Int), y_ = (y144 ++ [l1]) := ⟨_, rfl⟩
            replace H : ((backreachref14_Most.f kj2 y147).bind fun t150 => (if 0 ≤ (wrap64 (t150 + 1)) then (if (wrap64 (t150 + 1) : Int).toNat ≤ 35184372088832 then (backreachref14_Spread.l0 kj2 l0 l1 t150 (List.replicate (wrap64 (t150 + 1) : Int).toNat 0) 0) else (none)) else (none))) = some (r1, r2) := by first | (rw [hy147]; with_reducible exact H) | (have H2_ := (Option.bind_some _ _).symm.trans H; rw [hy147]; with_reducible exact H2_) | (have H2_ := (Option.bind_some _ _).symm.trans H; with_reducible exact H2_) | with_reducible exact H | (rw [hy147]; exact H) | exact H
            have Ny147 := Aside0.mk hy147
            clear hy147
            replace H := Option.bind_eq_some_iff.mp H
            obtain ⟨t150, A130, H⟩ := H
            replace H : (if 0 ≤ (wrap64 (t150 + 1)) then (if (wrap64 (t150 + 1) : Int).toNat ≤ 35184372088832 then (backreachref14_Spread.l0 kj2 l0 l1 t150 (List.replicate (wrap64 (t150 + 1) : Int).toNat 0) 0) else (none)) else (none)) = some (r1, r2) := H
            have A13 := Aside0.mk A130
            clear A130
            obtain ⟨ji14, hji14⟩ : ∃ j_ : Int, (wrap64 (t150 + 1)) = j_ := ⟨_, rfl⟩
            replace H : (if 0 ≤ (ji14) then (if (ji14 : Int).toNat ≤ 35184372088832 then (backreachref14_Spread.l0 kj2 l0 l1 t150 (List.replicate (ji14 : Int).toNat 0) 0) else (none)) else (none)) = some (r1, r2) := by first | (rw [hji14] at H; exact H) | (simp only [hji14] at H ⊢; exact H)
            (try rw [hji14] at A13)
            have hji14w : (IntKind.i64.wrap (t150 + 1)) = ji14 := (i64_w _).trans hji14
            by_cases c15 : 0 ≤ (ji14)
            · rw [if_pos c15] at H
              have c15b0 := eq_true c15
              have c15b1 : decide (0 ≤ (ji14)) = true := decide_eq_true c15
              clear c15
              by_cases c16 : (ji14 : Int).toNat ≤ 35184372088832
              · rw [if_pos c16] at H
                have c16b0 := eq_true c16
                have c16b1 : decide ((ji14 : Int).toNat ≤ 35184372088832) = true := decide_eq_true c16
                clear c16
                obtain ⟨y151, hy151⟩ : ∃ y_ : List Int, y_ = (List.replicate (ji14 : Int).toNat 0) := ⟨_, rfl⟩
                replace H : (backreachref14_Spread.l0 kj2 l0 l1 t150 y151 0) = some (r1, r2) := by first | (rw [hy151]; with_reducible exact H) | (have H2_ := (Option.bind_some _ _).symm.trans H; rw [hy151]; with_reducible exact H2_) | (have H2_ := (Option.bind_some _ _).symm.trans H; with_reducible exact H2_) | with_reducible exact H | (rw [hy151]; exact H) | exact H
                have Ny151 := Aside0.mk hy151
                clear hy151
                have H' := Aside0.mk H
                clear H
                go_wp2_with (first | ((with_reducible refine gate_dst (N := 24) rfl ?_); (try (refine gate_guard (by rfl) ?_; dsimp only)); refine Kd.N_lit (Kd.slice 3 (Kd.int .i64)) _ 23 ?hg (N' := 24) ?hd (xs := ([] : List (List Int))) (inner := []) (ok := (fun k_ => ((P0_ k_ ∨ P1_ k_) ∨ w.heap.size ≤ k_))) (okp := (fun k_ => ((P0_ k_ ∨ P1_ k_) ∨ w.heap.size ≤ k_))) ?hr ?hp (fun _ hk => hk) ((show ∀ k_, wc.heap.size ≤ k_ → (fun k_ => ((P0_ k_ ∨ P1_ k_) ∨ w.heap.size ≤ k_)) k_ from fun k_ hk => (.inr (Nat.le_trans (below_size (by repeat (first | (with_reducible first | exact HB.out | apply below_alloc | apply pw_below_drewN | apply below_drew1) | exact HB.out))) hk))) _ (Nat.le_refl _)) (Below.refl _ _) (Nat.le_refl _) (by simp) ?_; (case hd => rfl); (case hg => rfl); (case hr => first | (go_simp; done) | (go_simp; rfl)); (case hp => exact (Reps.none _ _)); intro v142 w17 ho18 hb hg_ hnew_; clear hg_ hnew_; (first | rw [← Ny141.out] at ho18 | (simp only [Int.reduceToNat] at ho18; rw [← Ny141.out] at ho18)); have n0_ := Aside0.mk (Kd.V_elder' (by (with_reducible repeat (first | apply Kd.V_alloc | apply Kd.V_drewN | apply Kd.V_drew)); exact HO_0.out) (Kd.N_base ho18) hb); have n1_ := Aside0.mk (Kd.V_elder' (by (with_reducible repeat (first | apply Kd.V_alloc | apply Kd.V_drewN | apply Kd.V_drew)); exact HO_1.out) (Kd.N_base ho18) hb); have n2_ := Aside0.mk (Kd.N_lower ho18 (below_size (by repeat (first | (with_reducible first | exact HB.out | apply below_alloc | apply pw_below_drewN | apply below_drew1) | exact HB.out)))); have n3_ := Aside0.mk (below_step (by repeat (first | (with_reducible first | exact HB.out | apply below_alloc | apply pw_below_drewN | apply below_drew1) | exact HB.out)) hb); clear HO_0; clear HO_1; clear HB; have HO_0 := n0_; have HO_1 := n1_; have HO143 := n2_; have HB := n3_; clear n0_ n1_ n2_ n3_; clear hb ho18) | ((with_reducible refine gate_builtin (b := .append) (xs := #[.tmp 24, .tmp 25]) rfl ?_); (try (refine gate_guard (by rfl) ?_; dsimp only)); at_builtin; refine Kd.N_append_rows (Kd.slice 3 (Kd.int .i64)) (w0 := w) w.heap.size rfl (.tmp 24) (.tmp 25) 22 23 (.slice none 0 0) 24 rfl Tryd.underlying22 info23 rfl (by decide) (by omega) v142 y141 l0 _ _ _ (fun k_ => ((P0_ k_ ∨ P1_ k_) ∨ w.heap.size ≤ k_)) (fun k_ => ((fun k_ => ((P0_ k_ ∨ P1_ k_) ∨ w.heap.size ≤ k_))) k_ ∧ some k_ ≠ (v142 : Value).ownBlock) rfl rfl ?aO ?aR (fun _ hk => hk) ?aF ?aB ?aS ?aL ?_; (case aR => exact (by skip; exact Kd.V_F (Kd.V_mono (ok' := (fun k_ => ((fun k_ => ((P0_ k_ ∨ P1_ k_) ∨ w.heap.size ≤ k_))) k_ ∧ some k_ ≠ (v142 : Value).ownBlock)) (HO_0.out) (fun k_ hk => ⟨hk.1, hk.2⟩)))); (case aB => exact (by repeat (first | (with_reducible first | exact HB.out | apply below_alloc | apply pw_below_drewN | apply below_drew1) | exact HB.out))); (case aF => exact (fun k_ hk => (.inr (Nat.le_trans (below_size (by repeat (first | (with_reducible first | exact HB.out | apply below_alloc | apply pw_below_drewN | apply below_drew1) | exact HB.out))) hk)))); (case aO => exact (by (with_reducible repeat (first | apply Kd.N_alloc | apply Kd.N_drewN | apply Kd.N_drew)); exact HO143.out)); (case aS => exact (below_size (by repeat (first | (with_reducible first | exact HB.out | apply below_alloc | apply pw_below_drewN | apply below_drew1) | exact HB.out)))); (case aL => have := LMc11.out; omega); intro v145 w19 ho hb hg hat; rw [← Ny144.out] at ho; have n0_ := Aside0.mk (Kd.V_afterv (ok := (fun k_ => ((P0_ k_ ∨ P1_ k_) ∨ w.heap.size ≤ k_))) (by (with_reducible repeat (first | apply Kd.V_alloc | apply Kd.V_drewN | apply Kd.V_drew)); exact HO_0.out) hg hat); have n1_ := Aside0.mk (Kd.V_afterv (ok := (fun k_ => ((P0_ k_ ∨ P1_ k_) ∨ w.heap.size ≤ k_))) (by (with_reducible repeat (first | apply Kd.V_alloc | apply Kd.V_drewN | apply Kd.V_drew)); exact HO_1.out) hg hat); have n2_ := Aside0.mk (hb); have n3_ := Aside0.mk (ho); clear HO_0; clear HO_1; clear HB; clear HO143; have HO_0 := n0_; have HO_1 := n1_; have HB := n2_; have HO146 := n3_; clear n0_ n1_ n2_ n3_; clear ho hb hg hat) | ((with_reducible refine gate_builtin (b := .append) (xs := #[.tmp 26, .tmp 28]) rfl ?_); (try (refine gate_guard (by rfl) ?_; dsimp only)); at_builtin; refine Kd.N_append (Kd.slice 3 (Kd.int .i64)) (w0 := w) w.heap.size rfl (.tmp 26) (.tmp 28) 22 23 (.slice none 0 0) 24 rfl Tryd.underlying22 info23 rfl (by decide) (by omega) v145 y144 l1 [.slice A1 l1.length c1] (fun k_ => ((P0_ k_ ∨ P1_ k_) ∨ w.heap.size ≤ k_)) (fun k_ => ((fun k_ => ((P0_ k_ ∨ P1_ k_) ∨ w.heap.size ≤ k_))) k_ ∧ some k_ ≠ (v145 : Value).ownBlock) rfl rfl ?aP (fun _ hk => hk) ?aF ?aO ?aB ?aS ?aL ?_; (case aP => exact (Kd.FK_slice_mk (Kd.V_reads' (Kd.V_mono (ok' := (fun k_ => ((fun k_ => ((P0_ k_ ∨ P1_ k_) ∨ w.heap.size ≤ k_))) k_ ∧ some k_ ≠ (v145 : Value).ownBlock)) (HO_1.out) (fun k_ hk => ⟨hk.1, hk.2⟩))).2.1 (Kd.V_F (Kd.V_mono (ok' := (fun k_ => ((fun k_ => ((P0_ k_ ∨ P1_ k_) ∨ w.heap.size ≤ k_))) k_ ∧ some k_ ≠ (v145 : Value).ownBlock)) (HO_1.out) (fun k_ hk => ⟨hk.1, hk.2⟩))))); (case aB => exact (by repeat (first | (with_reducible first | exact HB.out | apply below_alloc | apply pw_below_drewN | apply below_drew1) | exact HB.out))); (case aF => exact (fun k_ hk => (.inr (Nat.le_trans (below_size (by repeat (first | (with_reducible first | exact HB.out | apply below_alloc | apply pw_below_drewN | apply below_drew1) | exact HB.out))) hk)))); (case aO => exact (by (with_reducible repeat (first | apply Kd.N_alloc | apply Kd.N_drewN | apply Kd.N_drew)); exact HO146.out)); (case aS => exact (below_size (by repeat (first | (with_reducible first | exact HB.out | apply below_alloc | apply pw_below_drewN | apply below_drew1) | exact HB.out)))); (case aL => have := LMc12.out; omega); intro v148 w20 ho hb hg hat; rw [← Ny147.out] at ho; have n0_ := Aside0.mk (Kd.V_afterv (ok := (fun k_ => ((P0_ k_ ∨ P1_ k_) ∨ w.heap.size ≤ k_))) (by (with_reducible repeat (first | apply Kd.V_alloc | apply Kd.V_drewN | apply Kd.V_drew)); exact HO_0.out) hg hat); have n1_ := Aside0.mk (Kd.V_afterv (ok := (fun k_ => ((P0_ k_ ∨ P1_ k_) ∨ w.heap.size ≤ k_))) (by (with_reducible repeat (first | apply Kd.V_alloc | apply Kd.V_drewN | apply Kd.V_drew)); exact HO_1.out) hg hat); have n2_ := Aside0.mk (hb); have n3_ := Aside0.mk (ho); clear HO_0; clear HO_1; clear HB; clear HO146; have HO_0 := n0_; have HO_1 := n1_; have HB := n2_; have HO149 := n3_; clear n0_ n1_ n2_ n3_; clear ho hb hg hat; obtain ⟨Ao21, co21, eo21⟩ := Kd.N_slice HO149.out; subst eo21) | ((with_reducible refine gate_callee (f := 25) rfl ?_); refine goesL_ (some 30) rfl rfl Tryd.func25 (by kernel_rfl) rfl #[.slice Ao21 y147.length co21] rfl (by (try simp only [List.map_toArray, List.map_cons, List.map_nil]); first | done | rfl | (simp only [List.length_drop, List.length_take]; rfl)) ?_; (with_reducible refine (backreachref14_Most.calls kj2 _ _ y147 t150 _ ?side1 ?side2 A13.out).mono ?_); (case side1 => repeat (first | exact (Kd.N_reads' HO149.out).2.2 | (with_reducible refine Kd.C_alloc ?_ _) | (with_reducible refine Kd.C_drewN ?_ _) | (with_reducible refine Kd.C_drew ?_))); (case side2 => exact (Kd.N_reads' HO149.out).2.1); rintro e w' ⟨rfl, ⟨nd, rfl⟩⟩; refine ⟨_, rfl, ?_⟩) | ((with_reducible refine gate_dst (N := 33) rfl ?_); (try (refine gate_guard (by rfl) ?_; dsimp only)); refine Kd.R_make (Kd.int .i64) _ 3 rfl (N := 33) rfl 23 _ _ rfl ji14 rfl rfl Tryd.underlying23 (.int .i64 0) 8 info3 rfl (by decide) (by omega) 0 (ok := fun _ => True) (okp := fun _ => True) rfl (fun _ hk => hk) trivial (of_decide_eq_true (by first | (with_reducible assumption) | assumption)) (Nat.le_trans (Nat.mul_le_mul_right _ (of_decide_eq_true (by first | (with_reducible assumption) | assumption) : ji14.toNat ≤ 35184372088832)) (by omega)) (Below.refl _ _) (Nat.le_refl _) ?_; intro v152 w22 ho23 hb hg_ hnew_; clear hg_ hnew_; (first | rw [← Ny151.out] at ho23 | (simp only [Int.reduceToNat] at ho23; rw [← Ny151.out] at ho23)); have n0_ := Aside0.mk (Kd.V_elder' (by (with_reducible repeat (first | apply Kd.V_alloc | apply Kd.V_drewN | apply Kd.V_drew)); exact HO_0.out) (Kd.R_base ho23) hb); have n1_ := Aside0.mk (Kd.V_elder' (by (with_reducible repeat (first | apply Kd.V_alloc | apply Kd.V_drewN | apply Kd.V_drew)); exact HO_1.out) (Kd.R_base ho23) hb); have n2_ := Aside0.mk (Kd.N_elder' (by (with_reducible repeat (first | apply Kd.N_alloc | apply Kd.N_drewN | apply Kd.N_drew)); exact HO149.out) (Kd.R_base ho23) hb); have n3_ := Aside0.mk (Kd.R_lower (Kd.R_newM (M := fun k_ => (w.heap.size ≤ k_)) ho23 (below_size (by repeat (first | (with_reducible first | exact HB.out | apply below_alloc | apply pw_below_drewN | apply below_drew1) | exact HB.out))) (fun k_ h_ => h_)) (below_size (by repeat (first | (with_reducible first | exact HB.out | apply below_alloc | apply pw_below_drewN | apply below_drew1) | exact HB.out)))); have n4_ := Aside0.mk (below_step (by repeat (first | (with_reducible first | exact HB.out | apply below_alloc | apply pw_below_drewN | apply below_drew1) | exact HB.out)) hb); clear HO_0; clear HO_1; clear HO149; clear HB; have HO_0 := n0_; have HO_1 := n1_; have HO149 := n2_; have HO153 := n3_; have HB := n4_; clear n0_ n1_ n2_ n3_ n4_; clear hb ho23))
                go_loopg [8] kj2 (fun kq v8 w' => ∃ (x7_2 : List Int) (x8_2 : Int), v8 = .int .i64 x8_2 ∧ Aside0 (backreachref14_Spread.l0 kq l0 l1 t150 x7_2 x8_2 = some (r1, r2)) ∧ Aside0 (kq ≤ kj2) ∧ Aside0 (Kd.V (Kd.slice 3 (Kd.int .i64)) 23 w' w.heap.size (fun k_ => ((P0_ k_ ∨ P1_ k_) ∨ w.heap.size ≤ k_) ∧ some k_ ≠ (v152 : Value).ownBlock) (.slice A0 l0.length c0) l0) ∧ Aside0 (Kd.V (Kd.int .i64) 3 w' w.heap.size (fun k_ => ((P0_ k_ ∨ P1_ k_) ∨ w.heap.size ≤ k_) ∧ some k_ ≠ (v152 : Value).ownBlock) (.slice A1 l1.length c1) l1) ∧ Aside0 (Kd.R (Kd.int .i64) 3 w' w.heap.size (fun k_ => (w.heap.size ≤ k_)) v152 x7_2) ∧ Aside0 (Below w.heap.size w w'))
                case atStart => exact ⟨(y151), (0), (by first | rfl | (simp; done) | (simp [*]; done)), H', ⟨Nat.le_refl _⟩, ⟨by (with_reducible repeat (first | apply Kd.V_alloc | apply Kd.V_drewN | apply Kd.V_drew)); exact Kd.V_mono HO_0.out (fun _ hk => ⟨hk.1.1, hk.2⟩)⟩, ⟨by (with_reducible repeat (first | apply Kd.V_alloc | apply Kd.V_drewN | apply Kd.V_drew)); exact Kd.V_mono HO_1.out (fun _ hk => ⟨hk.1.1, hk.2⟩)⟩, ⟨by (with_reducible repeat (first | apply Kd.R_alloc | apply Kd.R_drewN | apply Kd.R_drew)); exact Kd.R_mono HO153.out (fun _ hk => hk.1)⟩, ⟨by repeat (first | (with_reducible first | exact HB.out | apply below_alloc | apply pw_below_drewN | apply below_drew1) | exact HB.out)⟩⟩
                case round =>
                  clear H'
                  try clear c1
                  try clear c2
                  try clear p2
                  try clear c5
                  try clear p6
                  try clear c10
                  try clear c11
                  try clear c12
                  try clear c13
                  try clear c15
                  try clear c15b0
                  try clear c15b1
                  try clear c16
                  try clear c16b0
                  try clear c16b1
                  try clear c21
                  try clear p2
                  obtain ⟨x7_2, x8_2, rfl, HA, HK2, HO_0, HO_1, HO_7, HB⟩ := hrel
                  cases gk with
                  | zero => exact absurd HA.out (by simp [backreachref14_Spread.l0])
                  | succ k2 =>
                    have H := HA.out
                    clear HA
                    simp only [backreachref14_Spread.l0] at H
                    by_cases c24 : x8_2 < (l1.length : Int)
                    · rw [if_pos c24] at H
                      have c24b0 : decide (x8_2 < (l1.length : Int)) = true := decide_eq_true c24
                      clear c24
                      by_cases c25 : 0 ≤ x8_2
                      · rw [if_pos c25] at H
                        have c25b0 : decide (0 ≤ x8_2) = true := decide_eq_true c25
                        clear c25
                        replace H := Option.bind_eq_some_iff.mp H
                        obtain ⟨t155, A260, H⟩ := H
                        replace H : (if 0 ≤ t155 then (if t155 < (x7_2.length : Int) then (if (rd x7_2 t155) = 0 then ((backreachref14_sign.f (rd l1 x8_2)).bind fun t158 => (backreachref14_Spread.l0 k2 l0 l1 t150 (x7_2.set (t155 : Int).toNat t158) (wrap64 (x8_2 + 1)))) else ((backreachref14_sign.f (rd l1 x8_2)).bind fun t162 => (if (rd x7_2 t155) = t162 then ((backreachref14_sign.f (rd l1 x8_2)).bind fun t164 => (backreachref14_Spread.l0 k2 l0 l1 t150 (x7_2.set (t155 : Int).toNat t164) (wrap64 (x8_2 + 1)))) else (some (([] : List Int), false))))) else (none)) else (none)) = some (r1, r2) := H
                        have A26 := Aside0.mk A260
                        clear A260
                        by_cases c27 : 0 ≤ t155
                        · rw [if_pos c27] at H
                          have c27b0 : decide (0 ≤ t155) = true := decide_eq_true c27
                          clear c27
                          by_cases c28 : t155 < (x7_2.length : Int)
                          · rw [if_pos c28] at H
                            have c28b0 : decide (t155 < (x7_2.length : Int)) = true := decide_eq_true c28
                            clear c28
                            by_cases c29 : (rd x7_2 t155) = 0
                            · rw [if_pos c29] at H
                              have c29b0 : ((rd x7_2 t155) == 0) = true := beq_iff_eq.mpr c29
                              have c29b1 : ((rd x7_2 t155) != 0) = false := bne_eq_false_iff_eq.mpr c29
                              clear c29
                              replace H := Option.bind_eq_some_iff.mp H
                              obtain ⟨t158, A300, H⟩ := H
                              replace H : (backreachref14_Spread.l0 k2 l0 l1 t150 (x7_2.set (t155 : Int).toNat t158) (wrap64 (x8_2 + 1))) = some (r1, r2) := H
                              have A30 := Aside0.mk A300
                              clear A300
                              obtain ⟨y159, hy159⟩ : ∃ y_ : List Int, y_ = (x7_2.set (t155 : Int).toNat t158) := ⟨_, rfl⟩
                              replace H : (backreachref14_Spread.l0 k2 l0 l1 t150 y159 (wrap64 (x8_2 + 1))) = some (r1, r2) := by first | (rw [hy159]; with_reducible exact H) | (have H2_ := (Option.bind_some _ _).symm.trans H; rw [hy159]; with_reducible exact H2_) | (have H2_ := (Option.bind_some _ _).symm.trans H; with_reducible exact H2_) | with_reducible exact H | (rw [hy159]; exact H) | exact H
                              have Ny159 := Aside0.mk hy159
                              clear hy159
                              have H' := Aside0.mk H
                              clear H
                              have p154 : 0 ≤ (x8_2 : Int) := of_decide_eq_true (by first | (with_reducible assumption) | assumption)
                              have q154 : x8_2 < (l1.length : Int) := of_decide_eq_true (by first | (with_reducible assumption) | assumption)
                              obtain ⟨ad154, e154, hx154_0⟩ := Kd.at_int (Kd.V_reads' HO_1.out).2.2 x8_2 p154 q154
                              cases e154
                              replace p154 := eq_true p154
                              replace q154 := eq_true q154
                              try go_wp2_with (first | ((with_reducible refine gate_callee (f := 16) rfl ?_); refine goesL_ (some 44) rfl rfl Tryd.func16 (by kernel_rfl) rfl #[.int .i64 (rd l1 x8_2)] rfl (by (try simp only [List.map_toArray, List.map_cons, List.map_nil]); first | done | rfl | (simp only [List.length_drop, List.length_take]; rfl)) ?_; (with_reducible refine (backreachref14_Var.calls (rd l1 x8_2) t155 _ A26.out).mono ?_); rintro e w' ⟨rfl, ⟨nd, rfl⟩⟩; refine ⟨_, rfl, ?_⟩; (try (rw [drewN_self wr]; generalize hq_ : World.drewN wr _ = wr; have n0_ : Aside0 (Kd.V (Kd.slice 3 (Kd.int .i64)) 23 wr w.heap.size (fun k_ => ((P0_ k_ ∨ P1_ k_) ∨ w.heap.size ≤ k_) ∧ some k_ ≠ (v152 : Value).ownBlock) (.slice A0 l0.length c0) l0) := ⟨by rw [← hq_]; exact (by (with_reducible repeat (first | apply Kd.V_alloc | apply Kd.V_drewN | apply Kd.V_drew)); exact HO_0.out)⟩; have n1_ : Aside0 (Kd.V (Kd.int .i64) 3 wr w.heap.size (fun k_ => ((P0_ k_ ∨ P1_ k_) ∨ w.heap.size ≤ k_) ∧ some k_ ≠ (v152 : Value).ownBlock) (.slice (some ad154) l1.length c1) l1) := ⟨by rw [← hq_]; exact (by (with_reducible repeat (first | apply Kd.V_alloc | apply Kd.V_drewN | apply Kd.V_drew)); exact HO_1.out)⟩; have n2_ : Aside0 (Kd.R (Kd.int .i64) 3 wr w.heap.size (fun k_ => (w.heap.size ≤ k_)) v152 x7_2) := ⟨by rw [← hq_]; exact (by (with_reducible repeat (first | apply Kd.R_alloc | apply Kd.R_drewN | apply Kd.R_drew)); exact HO_7.out)⟩; have n3_ : Aside0 (Below w.heap.size w wr) := ⟨by rw [← hq_]; exact (by repeat (first | (with_reducible first | exact HB.out | apply below_alloc | apply pw_below_drewN | apply below_drew1) | exact HB.out))⟩; clear HO_0 HO_1 HO_7 HB hq_; have HO_0 := n0_; have HO_1 := n1_; have HO_7 := n2_; have HB := n3_; clear n0_ n1_ n2_ n3_))))
                              have n0_ := Aside0.mk (Kd.V_drew HO_0.out)
                              have n1_ := Aside0.mk (Kd.V_drew HO_1.out)
                              have n2_ := Aside0.mk (Kd.R_drew HO_7.out)
                              have n3_ := Aside0.mk (below_drew1 HB.out)
                              clear HO_0
                              clear HO_1
                              clear HO_7
                              clear HB
                              have HO_0 := n0_
                              have HO_1 := n1_
                              have HO_7 := n2_
                              have HB := n3_
                              clear n0_ n1_ n2_ n3_
                              obtain ⟨Ao33, co33, eo33⟩ := Kd.R_slice HO_7.out
                              (first | subst eo33 | (injection eo33 with f1_ f2_ f3_; have f4_ := f1_.symm; have f5_ := f3_.symm; clear f1_ f2_ f3_; subst f4_; subst f5_))
                              have p156 : 0 ≤ (t155 : Int) := of_decide_eq_true (by first | (with_reducible assumption) | assumption)
                              have q156 : t155 < (x7_2.length : Int) := of_decide_eq_true (by first | (with_reducible assumption) | assumption)
                              obtain ⟨ad156, e156, hx156_0⟩ := Kd.at_int (Kd.R_reads' HO_7.out).2.2 t155 p156 q156
                              cases e156
                              replace p156 := eq_true p156
                              replace q156 := eq_true q156
                              refine start_ (n := 17) (S := fun w' => w'.cell? (ad156.add (t155).toNat) = some (.int .i64 (rd x7_2 t155))) (ds := []) #[false, false, false, false, false, false, false, false, false, false, false, false, false, false, false, false, false] (by kernel_rfl) rfl rfl (hx156_0) (fun hHeld => ?_); refine with_tabW backreachref14_Spread.tab9 backreachref14_Spread.bits9 (fun HT_ HW_ => ?_)
                              generalize wr.drew = w32 at HO_0 HO_1 HO_7 HB hx156_0 hHeld ⊢
                              refine pure_ (i := 0) (N := some 45) (v := ?_) (a' := ?_) #[true, false, false, false, false, false, false, false, false, false, false, false, false, false, false, false, false] rfl rfl (any_of HT_.out (by kernel_rfl)) (fun _ _ _ h => h) (Or.inl ⟨by rfl, ?_⟩) ?_ ?_
                              rotate_left
                              · intro w'
                                go_simp
                                with_reducible rfl
                              rotate_left
                              · simp only [Act.put, List.setIfInBounds_toArray, List.set_cons_zero, List.set_cons_succ, i64_w, i32_w]
                                rfl
                              refine pure_ (i := 1) (N := some 46) (v := ?_) (a' := ?_) #[true, true, false, false, false, false, false, false, false, false, false, false, false, false, false, false, false] rfl rfl (any_of HT_.out (by kernel_rfl)) (fun _ _ _ h => h) (Or.inl ⟨by rfl, ?_⟩) ?_ ?_
                              rotate_left
                              · intro w'
                                go_simp
                                with_reducible rfl
                              rotate_left
                              · simp only [Act.put, List.setIfInBounds_toArray, List.set_cons_zero, List.set_cons_succ, i64_w, i32_w]
                                rfl
                              refine pure_ (i := 2) (N := some 47) (v := ?_) (a' := ?_) #[true, true, true, false, false, false, false, false, false, false, false, false, false, false, false, false, false] rfl rfl (any_of HT_.out (by kernel_rfl)) (fun _ _ _ h => h) (Or.inl ⟨by rfl, ?_⟩) ?_ ?_
                              rotate_left
                              · intro w'
                                go_simp
                                with_reducible rfl
                              rotate_left
                              · simp only [Act.put, List.setIfInBounds_toArray, List.set_cons_zero, List.set_cons_succ, i64_w, i32_w]
                                rfl
                              refine take_ (i := 3) (N := some 48) (v := ?_) (a' := ?_) #[true, true, true, true, false, false, false, false, false, false, false, false, false, false, false, false, false] rfl rfl (take_ofW HT_.out HW_.out (by kernel_rfl)) (fun _ _ _ h => h) (Or.inl ⟨by rfl, ?_⟩) hHeld ?_ ?_
                              rotate_left
                              · intro w' s0
                                go_simp
                                with_reducible rfl
                              rotate_left
                              · simp only [Act.put, List.setIfInBounds_toArray, List.set_cons_zero, List.set_cons_succ, i64_w, i32_w]
                                rfl
                              refine pure_ (i := 4) (N := some 49) (v := ?_) (a' := ?_) #[true, true, true, true, true, false, false, false, false, false, false, false, false, false, false, false, false] rfl rfl (any_of HT_.out (by kernel_rfl)) (fun _ _ _ h => h) (Or.inl ⟨by rfl, ?_⟩) ?_ ?_
                              rotate_left
                              · intro w'
                                go_simp
                                with_reducible rfl
                              rotate_left
                              · simp only [Act.put, List.setIfInBounds_toArray, List.set_cons_zero, List.set_cons_succ, i64_w, i32_w]
                                rfl
                              refine pure_ (i := 5) (N := some 50) (v := ?_) (a' := ?_) #[true, true, true, true, true, true, false, false, false, false, false, false, false, false, false, false, false] rfl rfl (any_of HT_.out (by kernel_rfl)) (fun _ _ _ h => h) (Or.inl ⟨by rfl, ?_⟩) ?_ ?_
                              rotate_left
                              · intro w'
                                go_simp
                                with_reducible rfl
                              rotate_left
                              · simp only [Act.put, List.setIfInBounds_toArray, List.set_cons_zero, List.set_cons_succ, i64_w, i32_w]
                                rfl
                              refine pure_ (i := 6) (N := some 51) (v := undef) (a' := ?_) #[true, true, true, true, true, true, true, false, false, false, false, false, false, false, false, false, false] rfl rfl (any_of HT_.out (by kernel_rfl)) (fun _ _ _ h => h) (Or.inr ⟨by rfl, rfl⟩) ?_ ?_
                              rotate_left
                              · simp only [Act.put, List.setIfInBounds_toArray, List.set_cons_zero, List.set_cons_succ, i64_w, i32_w]
                                rfl
                              refine pure_ (i := 7) (N := some 52) (v := undef) (a' := ?_) #[true, true, true, true, true, true, true, true, false, false, false, false, false, false, false, false, false] rfl rfl (any_of HT_.out (by kernel_rfl)) (fun _ _ _ h => h) (Or.inr ⟨by rfl, rfl⟩) ?_ ?_
                              rotate_left
                              · simp only [Act.put, List.setIfInBounds_toArray, List.set_cons_zero, List.set_cons_succ, i64_w, i32_w]
                                rfl
                              refine pure_ (i := 8) (N := some 53) (v := undef) (a' := ?_) #[true, true, true, true, true, true, true, true, true, false, false, false, false, false, false, false, false] rfl rfl (any_of HT_.out (by kernel_rfl)) (fun _ _ _ h => h) (Or.inr ⟨by rfl, rfl⟩) ?_ ?_
                              rotate_left
                              · simp only [Act.put, List.setIfInBounds_toArray, List.set_cons_zero, List.set_cons_succ, i64_w, i32_w]
                                rfl
                              refine pure_ (i := 9) (N := some 54) (v := undef) (a' := ?_) #[true, true, true, true, true, true, true, true, true, true, false, false, false, false, false, false, false] rfl rfl (any_of HT_.out (by kernel_rfl)) (fun _ _ _ h => h) (Or.inr ⟨by rfl, rfl⟩) ?_ ?_
                              rotate_left
                              · simp only [Act.put, List.setIfInBounds_toArray, List.set_cons_zero, List.set_cons_succ, i64_w, i32_w]
                                rfl
                              refine pure_ (i := 10) (N := some 55) (v := undef) (a' := ?_) #[true, true, true, true, true, true, true, true, true, true, true, false, false, false, false, false, false] rfl rfl (any_of HT_.out (by kernel_rfl)) (fun _ _ _ h => h) (Or.inr ⟨by rfl, rfl⟩) ?_ ?_
                              rotate_left
                              · simp only [Act.put, List.setIfInBounds_toArray, List.set_cons_zero, List.set_cons_succ, i64_w, i32_w]
                                rfl
                              refine pure_ (i := 11) (N := some 56) (v := undef) (a' := ?_) #[true, true, true, true, true, true, true, true, true, true, true, true, false, false, false, false, false] rfl rfl (any_of HT_.out (by kernel_rfl)) (fun _ _ _ h => h) (Or.inr ⟨by rfl, rfl⟩) ?_ ?_
                              rotate_left
                              · simp only [Act.put, List.setIfInBounds_toArray, List.set_cons_zero, List.set_cons_succ, i64_w, i32_w]
                                rfl
                              refine pure_ (i := 12) (N := some 57) (v := undef) (a' := ?_) #[true, true, true, true, true, true, true, true, true, true, true, true, true, false, false, false, false] rfl rfl (any_of HT_.out (by kernel_rfl)) (fun _ _ _ h => h) (Or.inr ⟨by rfl, rfl⟩) ?_ ?_
                              rotate_left
                              · simp only [Act.put, List.setIfInBounds_toArray, List.set_cons_zero, List.set_cons_succ, i64_w, i32_w]
                                rfl
                              refine pure_ (i := 13) (N := some 58) (v := undef) (a' := ?_) #[true, true, true, true, true, true, true, true, true, true, true, true, true, true, false, false, false] rfl rfl (any_of HT_.out (by kernel_rfl)) (fun _ _ _ h => h) (Or.inr ⟨by rfl, rfl⟩) ?_ ?_
                              rotate_left
                              · simp only [Act.put, List.setIfInBounds_toArray, List.set_cons_zero, List.set_cons_succ, i64_w, i32_w]
                                rfl
                              refine pure_ (i := 14) (N := some 59) (v := undef) (a' := ?_) #[true, true, true, true, true, true, true, true, true, true, true, true, true, true, true, false, false] rfl rfl (any_of HT_.out (by kernel_rfl)) (fun _ _ _ h => h) (Or.inr ⟨by rfl, rfl⟩) ?_ ?_
                              rotate_left
                              · simp only [Act.put, List.setIfInBounds_toArray, List.set_cons_zero, List.set_cons_succ, i64_w, i32_w]
                                rfl
                              refine pure_ (i := 15) (N := some 60) (v := undef) (a' := ?_) #[true, true, true, true, true, true, true, true, true, true, true, true, true, true, true, true, false] rfl rfl (any_of HT_.out (by kernel_rfl)) (fun _ _ _ h => h) (Or.inr ⟨by rfl, rfl⟩) ?_ ?_
                              rotate_left
                              · simp only [Act.put, List.setIfInBounds_toArray, List.set_cons_zero, List.set_cons_succ, i64_w, i32_w]
                                rfl
                              refine pure_ (i := 16) (N := some 61) (v := ?_) (a' := ?_) #[true, true, true, true, true, true, true, true, true, true, true, true, true, true, true, true, true] rfl rfl (any_of HT_.out (by kernel_rfl)) (fun _ _ _ h => h) (Or.inl ⟨by rfl, ?_⟩) ?_ ?_
                              rotate_left
                              · intro w'
                                go_simp
                                with_reducible rfl
                              rotate_left
                              · simp only [Act.put, List.setIfInBounds_toArray, List.set_cons_zero, List.set_cons_succ, i64_w, i32_w]
                                rfl
                              refine done_ (done_of HT_.out (by kernel_rfl)) ?_
                              have p157 : 0 ≤ (x8_2 : Int) := of_decide_eq_true (by first | (with_reducible assumption) | assumption)
                              have q157 : x8_2 < (l1.length : Int) := of_decide_eq_true (by first | (with_reducible assumption) | assumption)
                              obtain ⟨ad157, e157, hx157_0⟩ := Kd.at_int (Kd.V_reads' HO_1.out).2.2 x8_2 p157 q157
                              obtain rfl : ad154 = ad157 := (by injection e157)
                              replace p157 := eq_true p157
                              replace q157 := eq_true q157
                              try go_wp2_with (first | ((with_reducible refine gate_callee (f := 36) rfl ?_); refine goesL_ (some 68) rfl rfl Tryd.func36 (by kernel_rfl) rfl #[.int .i64 (rd l1 x8_2)] rfl (by (try simp only [List.map_toArray, List.map_cons, List.map_nil]); first | done | rfl | (simp only [List.length_drop, List.length_take]; rfl)) ?_; (with_reducible refine (backreachref14_sign.calls (rd l1 x8_2) t158 _ A30.out).mono ?_); rintro e w' ⟨rfl, ⟨nd, rfl⟩⟩; refine ⟨_, rfl, ?_⟩; (try (rw [drewN_self w32]; generalize hq_ : World.drewN w32 _ = w32; have n0_ : Aside0 (Kd.V (Kd.slice 3 (Kd.int .i64)) 23 w32 w.heap.size (fun k_ => ((P0_ k_ ∨ P1_ k_) ∨ w.heap.size ≤ k_) ∧ some k_ ≠ (.slice (some ad156) x7_2.length co33 : Value).ownBlock) (.slice A0 l0.length c0) l0) := ⟨by rw [← hq_]; exact (by (with_reducible repeat (first | apply Kd.V_alloc | apply Kd.V_drewN | apply Kd.V_drew)); exact HO_0.out)⟩; have n1_ : Aside0 (Kd.V (Kd.int .i64) 3 w32 w.heap.size (fun k_ => ((P0_ k_ ∨ P1_ k_) ∨ w.heap.size ≤ k_) ∧ some k_ ≠ (.slice (some ad156) x7_2.length co33 : Value).ownBlock) (.slice (some ad154) l1.length c1) l1) := ⟨by rw [← hq_]; exact (by (with_reducible repeat (first | apply Kd.V_alloc | apply Kd.V_drewN | apply Kd.V_drew)); exact HO_1.out)⟩; have n2_ : Aside0 (Kd.R (Kd.int .i64) 3 w32 w.heap.size (fun k_ => (w.heap.size ≤ k_)) (.slice (some ad156) x7_2.length co33) x7_2) := ⟨by rw [← hq_]; exact (by (with_reducible repeat (first | apply Kd.R_alloc | apply Kd.R_drewN | apply Kd.R_drew)); exact HO_7.out)⟩; have n3_ : Aside0 (Below w.heap.size w w32) := ⟨by rw [← hq_]; exact (by repeat (first | (with_reducible first | exact HB.out | apply below_alloc | apply pw_below_drewN | apply below_drew1) | exact HB.out))⟩; clear HO_0 HO_1 HO_7 HB hq_; have HO_0 := n0_; have HO_1 := n1_; have HO_7 := n2_; have HB := n3_; clear n0_ n1_ n2_ n3_)); have p31 : 0 ≤ (t155 : Int) := of_decide_eq_true (by first | (with_reducible assumption) | assumption); have q31 : (t155 : Int) < ((x7_2.length : Int) : Int) := of_decide_eq_true (by first | (with_reducible assumption) | assumption); obtain ⟨go31, co31, eo31, gb31, gl31, cl31, HG31⟩ := Kd.R_form HO_7.out (by omega); (first | cases eo31 | (injection eo31 with ea_ en_ ec_; (first | subst ea_ | (injection ea_ with ea_; subst ea_)); subst ec_; clear en_)); have GB31 := Aside0.mk gb31; have GG31 := Aside0.mk HG31; clear gb31 gl31 HG31; (first | simp only [add_plain] at hx156_0 | skip); obtain ⟨hx31_0, hf31_0⟩ := Kd.R_celln 0 HO_7.out (t155 : Int) p31 q31; replace p31 := eq_true p31; replace q31 := eq_true q31; obtain ⟨hy34_, hz34_⟩ := Kd.R_celln 0 HO_7.out (t155 : Int) (of_decide_eq_true (by first | (with_reducible assumption) | assumption)) (of_decide_eq_true (by first | (with_reducible assumption) | assumption)); have HP34 := Kd.R_putg HO_7.out (t155 : Int) t158) | ((with_reducible refine gate_store (t := 3) (p := 69) rfl ?_); refine store_event (t := 3) (p := 69) (v := ?vo_w35) (w1 := (w32.setCell ⟨go31, (t155 : Int).toNat, none⟩ (.int .i64 t158))) ?hg ?ho ?hn ?hr ?_; (case ho => rfl); (case hg => rfl); (case hn => rfl); (case hr => first | (go_simp; done) | (go_simp; rfl)); intro w35 hw; have hg : w32.grownBy w35 (some go31) := (by rw [hw]; exact HP34.2); have hp_ : Kd.R (Kd.int .i64) 3 w35 w.heap.size (fun k_ => (w.heap.size ≤ k_)) (.slice (some ⟨go31, 0, none⟩) x7_2.length co33) y159 := (by rw [hw, Ny159.out]; exact HP34.1); clear HP34; have n0_ := Aside0.mk (Kd.V_afterv (v := (.slice (some ⟨go31, 0, none⟩) x7_2.length co33)) (v1 := (.slice (some ⟨go31, 0, none⟩) x7_2.length co33)) (ok := (fun k_ => ((P0_ k_ ∨ P1_ k_) ∨ w.heap.size ≤ k_))) (by (with_reducible repeat (first | apply Kd.V_alloc | apply Kd.V_drewN | apply Kd.V_drew)); exact HO_0.out) hg (.inl rfl)); have n1_ := Aside0.mk (Kd.V_afterv (v := (.slice (some ⟨go31, 0, none⟩) x7_2.length co33)) (v1 := (.slice (some ⟨go31, 0, none⟩) x7_2.length co33)) (ok := (fun k_ => ((P0_ k_ ∨ P1_ k_) ∨ w.heap.size ≤ k_))) (by (with_reducible repeat (first | apply Kd.V_alloc | apply Kd.V_drewN | apply Kd.V_drew)); exact HO_1.out) hg (.inl rfl)); have n2_ := Aside0.mk (hp_); have n3_ := Aside0.mk ((by rw [hw]; exact below_set (HB.out) GB31.out : Below w.heap.size w w35)); clear HO_0; clear HO_1; clear HO_7; clear HB; have HO_0 := n0_; have HO_1 := n1_; have HO_7 := n2_; have HB := n3_; clear n0_ n1_ n2_ n3_; clear hg hw hp_))
                              go_roundg k2
                              case measure => have := HJ2.out; have := HK2.out; omega
                              case rel => exact ⟨(y159), (wrap64 (x8_2 + 1)), (by first | rfl | (simp; done) | (simp [*]; done)), H', ⟨by have := HJ2.out; have := HK2.out; omega⟩, ⟨by (with_reducible repeat (first | apply Kd.V_alloc | apply Kd.V_drewN | apply Kd.V_drew)); exact HO_0.out⟩, ⟨by (with_reducible repeat (first | apply Kd.V_alloc | apply Kd.V_drewN | apply Kd.V_drew)); exact HO_1.out⟩, ⟨by (with_reducible repeat (first | apply Kd.R_alloc | apply Kd.R_drewN | apply Kd.R_drew)); exact HO_7.out⟩, ⟨by repeat (first | (with_reducible first | exact HB.out | apply below_alloc | apply pw_below_drewN | apply below_drew1) | exact HB.out)⟩⟩
                            · rw [if_neg c29] at H
                              have c29b0 : ((rd x7_2 t155) == 0) = false := beq_eq_false_iff_ne.mpr c29
                              have c29b1 : ((rd x7_2 t155) != 0) = true := bne_iff_ne.mpr c29
                              replace H := Option.bind_eq_some_iff.mp H
                              obtain ⟨t162, A360, H⟩ := H
                              replace H : (if (rd x7_2 t155) = t162 then ((backreachref14_sign.f (rd l1 x8_2)).bind fun t164 => (backreachref14_Spread.l0 k2 l0 l1 t150 (x7_2.set (t155 : Int).toNat t164) (wrap64 (x8_2 + 1)))) else (some (([] : List Int), false))) = some (r1, r2) := H
                              have A36 := Aside0.mk A360
                              clear A360
                              by_cases c37 : (rd x7_2 t155) = t162
                              · rw [if_pos c37] at H
                                have c37b0 : ((rd x7_2 t155) == t162) = true := beq_iff_eq.mpr c37
                                have c37b1 : ((rd x7_2 t155) != t162) = false := bne_eq_false_iff_eq.mpr c37
                                clear c37
                                replace H := Option.bind_eq_some_iff.mp H
                                obtain ⟨t164, A380, H⟩ := H
                                replace H : (backreachref14_Spread.l0 k2 l0 l1 t150 (x7_2.set (t155 : Int).toNat t164) (wrap64 (x8_2 + 1))) = some (r1, r2) := H
                                have A38 := Aside0.mk A380
                                clear A380
                                obtain ⟨y165, hy165⟩ : ∃ y_ : List Int, y_ = (x7_2.set (t155 : Int).toNat t164) := ⟨_, rfl⟩
                                replace H : (backreachref14_Spread.l0 k2 l0 l1 t150 y165 (wrap64 (x8_2 + 1))) = some (r1, r2) := by first | (rw [hy165]; with_reducible exact H) | (have H2_ := (Option.bind_some _ _).symm.trans H; rw [hy165]; with_reducible exact H2_) | (have H2_ := (Option.bind_some _ _).symm.trans H; with_reducible exact H2_) | with_reducible exact H | (rw [hy165]; exact H) | exact H
                                have Ny165 := Aside0.mk hy165
                                clear hy165
                                have H' := Aside0.mk H
                                clear H
                                have p154 : 0 ≤ (x8_2 : Int) := of_decide_eq_true (by first | (with_reducible assumption) | assumption)
                                have q154 : x8_2 < (l1.length : Int) := of_decide_eq_true (by first | (with_reducible assumption) | assumption)
                                obtain ⟨ad154, e154, hx154_0⟩ := Kd.at_int (Kd.V_reads' HO_1.out).2.2 x8_2 p154 q154
                                cases e154
                                replace p154 := eq_true p154
                                replace q154 := eq_true q154
                                try go_wp2_with (first | ((with_reducible refine gate_callee (f := 16) rfl ?_); refine goesL_ (some 44) rfl rfl Tryd.func16 (by kernel_rfl) rfl #[.int .i64 (rd l1 x8_2)] rfl (by (try simp only [List.map_toArray, List.map_cons, List.map_nil]); first | done | rfl | (simp only [List.length_drop, List.length_take]; rfl)) ?_; (with_reducible refine (backreachref14_Var.calls (rd l1 x8_2) t155 _ A26.out).mono ?_); rintro e w' ⟨rfl, ⟨nd, rfl⟩⟩; refine ⟨_, rfl, ?_⟩; (try (rw [drewN_self wr]; generalize hq_ : World.drewN wr _ = wr; have n0_ : Aside0 (Kd.V (Kd.slice 3 (Kd.int .i64)) 23 wr w.heap.size (fun k_ => ((P0_ k_ ∨ P1_ k_) ∨ w.heap.size ≤ k_) ∧ some k_ ≠ (v152 : Value).ownBlock) (.slice A0 l0.length c0) l0) := ⟨by rw [← hq_]; exact (by (with_reducible repeat (first | apply Kd.V_alloc | apply Kd.V_drewN | apply Kd.V_drew)); exact HO_0.out)⟩; have n1_ : Aside0 (Kd.V (Kd.int .i64) 3 wr w.heap.size (fun k_ => ((P0_ k_ ∨ P1_ k_) ∨ w.heap.size ≤ k_) ∧ some k_ ≠ (v152 : Value).ownBlock) (.slice (some ad154) l1.length c1) l1) := ⟨by rw [← hq_]; exact (by (with_reducible repeat (first | apply Kd.V_alloc | apply Kd.V_drewN | apply Kd.V_drew)); exact HO_1.out)⟩; have n2_ : Aside0 (Kd.R (Kd.int .i64) 3 wr w.heap.size (fun k_ => (w.heap.size ≤ k_)) v152 x7_2) := ⟨by rw [← hq_]; exact (by (with_reducible repeat (first | apply Kd.R_alloc | apply Kd.R_drewN | apply Kd.R_drew)); exact HO_7.out)⟩; have n3_ : Aside0 (Below w.heap.size w wr) := ⟨by rw [← hq_]; exact (by repeat (first | (with_reducible first | exact HB.out | apply below_alloc | apply pw_below_drewN | apply below_drew1) | exact HB.out))⟩; clear HO_0 HO_1 HO_7 HB hq_; have HO_0 := n0_; have HO_1 := n1_; have HO_7 := n2_; have HB := n3_; clear n0_ n1_ n2_ n3_))))
                                have n0_ := Aside0.mk (Kd.V_drew HO_0.out)
                                have n1_ := Aside0.mk (Kd.V_drew HO_1.out)
                                have n2_ := Aside0.mk (Kd.R_drew HO_7.out)
                                have n3_ := Aside0.mk (below_drew1 HB.out)
                                clear HO_0
                                clear HO_1
                                clear HO_7
                                clear HB
                                have HO_0 := n0_
                                have HO_1 := n1_
                                have HO_7 := n2_
                                have HB := n3_
                                clear n0_ n1_ n2_ n3_
                                obtain ⟨Ao41, co41, eo41⟩ := Kd.R_slice HO_7.out
                                (first | subst eo41 | (injection eo41 with f1_ f2_ f3_; have f4_ := f1_.symm; have f5_ := f3_.symm; clear f1_ f2_ f3_; subst f4_; subst f5_))
                                have p156 : 0 ≤ (t155 : Int) := of_decide_eq_true (by first | (with_reducible assumption) | assumption)
                                have q156 : t155 < (x7_2.length : Int) := of_decide_eq_true (by first | (with_reducible assumption) | assumption)
                                obtain ⟨ad156, e156, hx156_0⟩ := Kd.at_int (Kd.R_reads' HO_7.out).2.2 t155 p156 q156
                                cases e156
                                replace p156 := eq_true p156
                                replace q156 := eq_true q156
                                have p160 : 0 ≤ (t155 : Int) := of_decide_eq_true (by first | (with_reducible assumption) | assumption)
                                have q160 : t155 < (x7_2.length : Int) := of_decide_eq_true (by first | (with_reducible assumption) | assumption)
                                obtain ⟨ad160, e160, hx160_0⟩ := Kd.at_int (Kd.R_reads' HO_7.out).2.2 t155 p160 q160
                                obtain rfl : ad156 = ad160 := (by injection e160)
                                replace p160 := eq_true p160
                                replace q160 := eq_true q160
                                have p161 : 0 ≤ (x8_2 : Int) := of_decide_eq_true (by first | (with_reducible assumption) | assumption)
                                have q161 : x8_2 < (l1.length : Int) := of_decide_eq_true (by first | (with_reducible assumption) | assumption)
                                obtain ⟨ad161, e161, hx161_0⟩ := Kd.at_int (Kd.V_reads' HO_1.out).2.2 x8_2 p161 q161
                                obtain rfl : ad154 = ad161 := (by injection e161)
                                replace p161 := eq_true p161
                                replace q161 := eq_true q161
                                refine start_ (n := 17) (S := fun w' => w'.cell? (ad156.add (t155).toNat) = some (.int .i64 (rd x7_2 t155)) ∧ w'.cell? (ad156.add (t155).toNat) = some (.int .i64 (rd x7_2 t155)) ∧ w'.cell? (ad154.add (x8_2).toNat) = some (.int .i64 (rd l1 x8_2))) (ds := []) #[false, false, false, false, false, false, false, false, false, false, false, false, false, false, false, false, false] (by kernel_rfl) rfl rfl ⟨hx156_0, hx160_0, hx161_0⟩ (fun hHeld => ?_); refine with_tabW backreachref14_Spread.tab9 backreachref14_Spread.bits9 (fun HT_ HW_ => ?_)
                                generalize wr.drew = w40 at HO_0 HO_1 HO_7 HB hx156_0 hx160_0 hx161_0 hHeld ⊢
                                refine pure_ (i := 0) (N := some 45) (v := ?_) (a' := ?_) #[true, false, false, false, false, false, false, false, false, false, false, false, false, false, false, false, false] rfl rfl (any_of HT_.out (by kernel_rfl)) (fun _ _ _ h => h) (Or.inl ⟨by rfl, ?_⟩) ?_ ?_
                                rotate_left
                                · intro w'
                                  go_simp
                                  with_reducible rfl
                                rotate_left
                                · simp only [Act.put, List.setIfInBounds_toArray, List.set_cons_zero, List.set_cons_succ, i64_w, i32_w]
                                  rfl
                                refine pure_ (i := 1) (N := some 46) (v := ?_) (a' := ?_) #[true, true, false, false, false, false, false, false, false, false, false, false, false, false, false, false, false] rfl rfl (any_of HT_.out (by kernel_rfl)) (fun _ _ _ h => h) (Or.inl ⟨by rfl, ?_⟩) ?_ ?_
                                rotate_left
                                · intro w'
                                  go_simp
                                  with_reducible rfl
                                rotate_left
                                · simp only [Act.put, List.setIfInBounds_toArray, List.set_cons_zero, List.set_cons_succ, i64_w, i32_w]
                                  rfl
                                refine pure_ (i := 2) (N := some 47) (v := ?_) (a' := ?_) #[true, true, true, false, false, false, false, false, false, false, false, false, false, false, false, false, false] rfl rfl (any_of HT_.out (by kernel_rfl)) (fun _ _ _ h => h) (Or.inl ⟨by rfl, ?_⟩) ?_ ?_
                                rotate_left
                                · intro w'
                                  go_simp
                                  with_reducible rfl
                                rotate_left
                                · simp only [Act.put, List.setIfInBounds_toArray, List.set_cons_zero, List.set_cons_succ, i64_w, i32_w]
                                  rfl
                                refine take_ (i := 3) (N := some 48) (v := ?_) (a' := ?_) #[true, true, true, true, false, false, false, false, false, false, false, false, false, false, false, false, false] rfl rfl (take_ofW HT_.out HW_.out (by kernel_rfl)) (fun _ _ _ h => h) (Or.inl ⟨by rfl, ?_⟩) hHeld ?_ ?_
                                rotate_left
                                · rintro w' ⟨s0, s1, s2⟩
                                  go_simp
                                  with_reducible rfl
                                rotate_left
                                · simp only [Act.put, List.setIfInBounds_toArray, List.set_cons_zero, List.set_cons_succ, i64_w, i32_w]
                                  rfl
                                refine pure_ (i := 4) (N := some 49) (v := ?_) (a' := ?_) #[true, true, true, true, true, false, false, false, false, false, false, false, false, false, false, false, false] rfl rfl (any_of HT_.out (by kernel_rfl)) (fun _ _ _ h => h) (Or.inl ⟨by rfl, ?_⟩) ?_ ?_
                                rotate_left
                                · intro w'
                                  go_simp
                                  with_reducible rfl
                                rotate_left
                                · simp only [Act.put, List.setIfInBounds_toArray, List.set_cons_zero, List.set_cons_succ, i64_w, i32_w]
                                  rfl
                                refine pure_ (i := 5) (N := some 50) (v := ?_) (a' := ?_) #[true, true, true, true, true, true, false, false, false, false, false, false, false, false, false, false, false] rfl rfl (any_of HT_.out (by kernel_rfl)) (fun _ _ _ h => h) (Or.inl ⟨by rfl, ?_⟩) ?_ ?_
                                rotate_left
                                · intro w'
                                  go_simp
                                  with_reducible rfl
                                rotate_left
                                · simp only [Act.put, List.setIfInBounds_toArray, List.set_cons_zero, List.set_cons_succ, i64_w, i32_w]
                                  rfl
                                refine pure_ (i := 6) (N := some 51) (v := ?_) (a' := ?_) #[true, true, true, true, true, true, true, false, false, false, false, false, false, false, false, false, false] rfl rfl (any_of HT_.out (by kernel_rfl)) (fun _ _ _ h => h) (Or.inl ⟨by rfl, ?_⟩) ?_ ?_
                                rotate_left
                                · intro w'
                                  go_simp
                                  with_reducible rfl
                                rotate_left
                                · simp only [Act.put, List.setIfInBounds_toArray, List.set_cons_zero, List.set_cons_succ, i64_w, i32_w]
                                  rfl
                                refine pure_ (i := 7) (N := some 52) (v := ?_) (a' := ?_) #[true, true, true, true, true, true, true, true, false, false, false, false, false, false, false, false, false] rfl rfl (any_of HT_.out (by kernel_rfl)) (fun _ _ _ h => h) (Or.inl ⟨by rfl, ?_⟩) ?_ ?_
                                rotate_left
                                · intro w'
                                  go_simp
                                  with_reducible rfl
                                rotate_left
                                · simp only [Act.put, List.setIfInBounds_toArray, List.set_cons_zero, List.set_cons_succ, i64_w, i32_w]
                                  rfl
                                refine pure_ (i := 8) (N := some 53) (v := ?_) (a' := ?_) #[true, true, true, true, true, true, true, true, true, false, false, false, false, false, false, false, false] rfl rfl (any_of HT_.out (by kernel_rfl)) (fun _ _ _ h => h) (Or.inl ⟨by rfl, ?_⟩) ?_ ?_
                                rotate_left
                                · intro w'
                                  go_simp
                                  with_reducible rfl
                                rotate_left
                                · simp only [Act.put, List.setIfInBounds_toArray, List.set_cons_zero, List.set_cons_succ, i64_w, i32_w]
                                  rfl
                                refine pure_ (i := 10) (N := some 55) (v := ?_) (a' := ?_) #[true, true, true, true, true, true, true, true, true, false, true, false, false, false, false, false, false] rfl rfl (any_of HT_.out (by kernel_rfl)) (fun _ _ _ h => h) (Or.inl ⟨by rfl, ?_⟩) ?_ ?_
                                rotate_left
                                · intro w'
                                  go_simp
                                  with_reducible rfl
                                rotate_left
                                · simp only [Act.put, List.setIfInBounds_toArray, List.set_cons_zero, List.set_cons_succ, i64_w, i32_w]
                                  rfl
                                refine pure_ (i := 11) (N := some 56) (v := ?_) (a' := ?_) #[true, true, true, true, true, true, true, true, true, false, true, true, false, false, false, false, false] rfl rfl (any_of HT_.out (by kernel_rfl)) (fun _ _ _ h => h) (Or.inl ⟨by rfl, ?_⟩) ?_ ?_
                                rotate_left
                                · intro w'
                                  go_simp
                                  with_reducible rfl
                                rotate_left
                                · simp only [Act.put, List.setIfInBounds_toArray, List.set_cons_zero, List.set_cons_succ, i64_w, i32_w]
                                  rfl
                                refine pure_ (i := 12) (N := some 57) (v := ?_) (a' := ?_) #[true, true, true, true, true, true, true, true, true, false, true, true, true, false, false, false, false] rfl rfl (any_of HT_.out (by kernel_rfl)) (fun _ _ _ h => h) (Or.inl ⟨by rfl, ?_⟩) ?_ ?_
                                rotate_left
                                · intro w'
                                  go_simp
                                  with_reducible rfl
                                rotate_left
                                · simp only [Act.put, List.setIfInBounds_toArray, List.set_cons_zero, List.set_cons_succ, i64_w, i32_w]
                                  rfl
                                refine take_ (i := 9) (N := some 54) (v := ?_) (a' := ?_) #[true, true, true, true, true, true, true, true, true, true, true, true, true, false, false, false, false] rfl rfl (take_ofW HT_.out HW_.out (by kernel_rfl)) (fun _ _ _ h => h) (Or.inl ⟨by rfl, ?_⟩) hHeld ?_ ?_
                                rotate_left
                                · rintro w' ⟨s0, s1, s2⟩
                                  go_simp
                                  with_reducible rfl
                                rotate_left
                                · simp only [Act.put, List.setIfInBounds_toArray, List.set_cons_zero, List.set_cons_succ, i64_w, i32_w]
                                  rfl
                                refine take_ (i := 13) (N := some 58) (v := ?_) (a' := ?_) #[true, true, true, true, true, true, true, true, true, true, true, true, true, true, false, false, false] rfl rfl (take_ofW HT_.out HW_.out (by kernel_rfl)) (fun _ _ _ h => h) (Or.inl ⟨by rfl, ?_⟩) hHeld ?_ ?_
                                rotate_left
                                · rintro w' ⟨s0, s1, s2⟩
                                  go_simp
                                  with_reducible rfl
                                rotate_left
                                · simp only [Act.put, List.setIfInBounds_toArray, List.set_cons_zero, List.set_cons_succ, i64_w, i32_w]
                                  rfl
                                refine one_ (i := 14) (N := some 59) #[true, true, true, true, true, true, true, true, true, true, true, true, true, true, true, false, false] rfl rfl (one_of HT_.out (by kernel_rfl)) (by decide) (fun K hK => ?_)
                                refine goes_ Tryd.func36 (by kernel_rfl) rfl #[.int .i64 (rd l1 x8_2)] (by rfl) rfl rfl (by (try simp only [List.map_toArray, List.map_cons, List.map_nil]); first | done | rfl | (simp only [List.length_drop, List.length_take]; rfl)) ?_
                                with_reducible refine (backreachref14_sign.calls (rd l1 x8_2) t162 _ A36.out).mono ?_
                                rintro e w' ⟨rfl, ⟨nd, rfl⟩⟩
                                refine ⟨_, rfl, ?_⟩
                                refine hK.out _ _ ⟨hHeld.1, hHeld.2.1, hHeld.2.2⟩ (fun hHeld => ?_)
                                clear hK K
                                refine norm_ (a' := ?_) ?_ ?_
                                rotate_left
                                · show Act.put _ (some 59) _ = _
                                  simp only [Act.put, List.setIfInBounds_toArray, List.set_cons_zero, List.set_cons_succ, i64_w, i32_w]
                                  rfl
                                refine pure_ (i := 15) (N := some 60) (v := ?_) (a' := ?_) #[true, true, true, true, true, true, true, true, true, true, true, true, true, true, true, true, false] rfl rfl (any_of HT_.out (by kernel_rfl)) (fun _ _ _ h => h) (Or.inl ⟨by rfl, ?_⟩) ?_ ?_
                                rotate_left
                                · intro w'
                                  go_simp
                                  with_reducible rfl
                                rotate_left
                                · simp only [Act.put, List.setIfInBounds_toArray, List.set_cons_zero, List.set_cons_succ, i64_w, i32_w]
                                  rfl
                                refine pure_ (i := 16) (N := some 61) (v := ?_) (a' := ?_) #[true, true, true, true, true, true, true, true, true, true, true, true, true, true, true, true, true] rfl rfl (any_of HT_.out (by kernel_rfl)) (fun _ _ _ h => h) (Or.inl ⟨by rfl, ?_⟩) ?_ ?_
                                rotate_left
                                · intro w'
                                  go_simp
                                  with_reducible rfl
                                rotate_left
                                · simp only [Act.put, List.setIfInBounds_toArray, List.set_cons_zero, List.set_cons_succ, i64_w, i32_w]
                                  rfl
                                refine done_ (done_of HT_.out (by kernel_rfl)) ?_
                                have p163 : 0 ≤ (x8_2 : Int) := of_decide_eq_true (by first | (with_reducible assumption) | assumption)
                                have q163 : x8_2 < (l1.length : Int) := of_decide_eq_true (by first | (with_reducible assumption) | assumption)
                                obtain ⟨ad163, e163, hx163_0⟩ := Kd.at_int (Kd.V_reads' HO_1.out).2.2 x8_2 p163 q163
                                obtain rfl : ad154 = ad163 := (by injection e163)
                                replace p163 := eq_true p163
                                replace q163 := eq_true q163
                                try go_wp2_with (first | ((with_reducible refine gate_callee (f := 36) rfl ?_); refine goesL_ (some 68) rfl rfl Tryd.func36 (by kernel_rfl) rfl #[.int .i64 (rd l1 x8_2)] rfl (by (try simp only [List.map_toArray, List.map_cons, List.map_nil]); first | done | rfl | (simp only [List.length_drop, List.length_take]; rfl)) ?_; (with_reducible refine (backreachref14_sign.calls (rd l1 x8_2) t164 _ A38.out).mono ?_); rintro e w' ⟨rfl, ⟨nd, rfl⟩⟩; refine ⟨_, rfl, ?_⟩; (try (rw [drewN_self w40]; generalize hq_ : World.drewN w40 _ = w40; have n0_ : Aside0 (Kd.V (Kd.slice 3 (Kd.int .i64)) 23 w40 w.heap.size (fun k_ => ((P0_ k_ ∨ P1_ k_) ∨ w.heap.size ≤ k_) ∧ some k_ ≠ (.slice (some ad156) x7_2.length co41 : Value).ownBlock) (.slice A0 l0.length c0) l0) := ⟨by rw [← hq_]; exact (by (with_reducible repeat (first | apply Kd.V_alloc | apply Kd.V_drewN | apply Kd.V_drew)); exact HO_0.out)⟩; have n1_ : Aside0 (Kd.V (Kd.int .i64) 3 w40 w.heap.size (fun k_ => ((P0_ k_ ∨ P1_ k_) ∨ w.heap.size ≤ k_) ∧ some k_ ≠ (.slice (some ad156) x7_2.length co41 : Value).ownBlock) (.slice (some ad154) l1.length c1) l1) := ⟨by rw [← hq_]; exact (by (with_reducible repeat (first | apply Kd.V_alloc | apply Kd.V_drewN | apply Kd.V_drew)); exact HO_1.out)⟩; have n2_ : Aside0 (Kd.R (Kd.int .i64) 3 w40 w.heap.size (fun k_ => (w.heap.size ≤ k_)) (.slice (some ad156) x7_2.length co41) x7_2) := ⟨by rw [← hq_]; exact (by (with_reducible repeat (first | apply Kd.R_alloc | apply Kd.R_drewN | apply Kd.R_drew)); exact HO_7.out)⟩; have n3_ : Aside0 (Below w.heap.size w w40) := ⟨by rw [← hq_]; exact (by repeat (first | (with_reducible first | exact HB.out | apply below_alloc | apply pw_below_drewN | apply below_drew1) | exact HB.out))⟩; clear HO_0 HO_1 HO_7 HB hq_; have HO_0 := n0_; have HO_1 := n1_; have HO_7 := n2_; have HB := n3_; clear n0_ n1_ n2_ n3_)); have p39 : 0 ≤ (t155 : Int) := of_decide_eq_true (by first | (with_reducible assumption) | assumption); have q39 : (t155 : Int) < ((x7_2.length : Int) : Int) := of_decide_eq_true (by first | (with_reducible assumption) | assumption); obtain ⟨go39, co39, eo39, gb39, gl39, cl39, HG39⟩ := Kd.R_form HO_7.out (by omega); (first | cases eo39 | (injection eo39 with ea_ en_ ec_; (first | subst ea_ | (injection ea_ with ea_; subst ea_)); subst ec_; clear en_)); have GB39 := Aside0.mk gb39; have GG39 := Aside0.mk HG39; clear gb39 gl39 HG39; (first | simp only [add_plain] at hx156_0 | skip); (first | simp only [add_plain] at hx160_0 | skip); obtain ⟨hx39_0, hf39_0⟩ := Kd.R_celln 0 HO_7.out (t155 : Int) p39 q39; replace p39 := eq_true p39; replace q39 := eq_true q39; obtain ⟨hy42_, hz42_⟩ := Kd.R_celln 0 HO_7.out (t155 : Int) (of_decide_eq_true (by first | (with_reducible assumption) | assumption)) (of_decide_eq_true (by first | (with_reducible assumption) | assumption)); have HP42 := Kd.R_putg HO_7.out (t155 : Int) t164) | ((with_reducible refine gate_store (t := 3) (p := 69) rfl ?_); refine store_event (t := 3) (p := 69) (v := ?vo_w43) (w1 := (w40.setCell ⟨go39, (t155 : Int).toNat, none⟩ (.int .i64 t164))) ?hg ?ho ?hn ?hr ?_; (case ho => rfl); (case hg => rfl); (case hn => rfl); (case hr => first | (go_simp; done) | (go_simp; rfl)); intro w43 hw; have hg : w40.grownBy w43 (some go39) := (by rw [hw]; exact HP42.2); have hp_ : Kd.R (Kd.int .i64) 3 w43 w.heap.size (fun k_ => (w.heap.size ≤ k_)) (.slice (some ⟨go39, 0, none⟩) x7_2.length co41) y165 := (by rw [hw, Ny165.out]; exact HP42.1); clear HP42; have n0_ := Aside0.mk (Kd.V_afterv (v := (.slice (some ⟨go39, 0, none⟩) x7_2.length co41)) (v1 := (.slice (some ⟨go39, 0, none⟩) x7_2.length co41)) (ok := (fun k_ => ((P0_ k_ ∨ P1_ k_) ∨ w.heap.size ≤ k_))) (by (with_reducible repeat (first | apply Kd.V_alloc | apply Kd.V_drewN | apply Kd.V_drew)); exact HO_0.out) hg (.inl rfl)); have n1_ := Aside0.mk (Kd.V_afterv (v := (.slice (some ⟨go39, 0, none⟩) x7_2.length co41)) (v1 := (.slice (some ⟨go39, 0, none⟩) x7_2.length co41)) (ok := (fun k_ => ((P0_ k_ ∨ P1_ k_) ∨ w.heap.size ≤ k_))) (by (with_reducible repeat (first | apply Kd.V_alloc | apply Kd.V_drewN | apply Kd.V_drew)); exact HO_1.out) hg (.inl rfl)); have n2_ := Aside0.mk (hp_); have n3_ := Aside0.mk ((by rw [hw]; exact below_set (HB.out) GB39.out : Below w.heap.size w w43)); clear HO_0; clear HO_1; clear HO_7; clear HB; have HO_0 := n0_; have HO_1 := n1_; have HO_7 := n2_; have HB := n3_; clear n0_ n1_ n2_ n3_; clear hg hw hp_))
                                go_roundg k2
                                case measure => have := HJ2.out; have := HK2.out; omega
                                case rel =>
                                  have HX7 := Kd.R_drewN HO_7.out nd
                                  have HXP := Kd.R_putg HX7 (t155 : Int) t164
                                  have HXV0 := Kd.V_afterv (v := (.slice (some ⟨go39, 0, none⟩) x7_2.length co41)) (v1 := (.slice (some ⟨go39, 0, none⟩) x7_2.length co41)) (ok := (fun k_ => ((P0_ k_ ∨ P1_ k_) ∨ w.heap.size ≤ k_))) (Kd.V_drewN HO_0.out nd) HXP.2 (.inl rfl)
                                  have HXV1 := Kd.V_afterv (v := (.slice (some ⟨go39, 0, none⟩) x7_2.length co41)) (v1 := (.slice (some ⟨go39, 0, none⟩) x7_2.length co41)) (ok := (fun k_ => ((P0_ k_ ∨ P1_ k_) ∨ w.heap.size ≤ k_))) (Kd.V_drewN HO_1.out nd) HXP.2 (.inl rfl)
                                  have HXB := below_set (j := (t155 : Int).toNat) (v := .int .i64 t164) (pw_below_drewN HB.out nd) GB39.out
                                  exact ⟨(y165), (wrap64 (x8_2 + 1)), (by first | rfl | (simp; done) | (simp [*]; done)), H', ⟨by have := HJ2.out; have := HK2.out; omega⟩, ⟨HXV0⟩, ⟨HXV1⟩, ⟨by rw [Ny165.out]; exact HXP.1⟩, ⟨HXB⟩⟩
                              · rw [if_neg c37] at H
                                have c37b0 : ((rd x7_2 t155) == t162) = false := beq_eq_false_iff_ne.mpr c37
                                have c37b1 : ((rd x7_2 t155) != t162) = true := bne_iff_ne.mpr c37
                                simp only [Option.some.injEq, Prod.mk.injEq] at H
                                obtain ⟨rfl, rfl⟩ := H
                                have p154 : 0 ≤ (x8_2 : Int) := of_decide_eq_true (by first | (with_reducible assumption) | assumption)
                                have q154 : x8_2 < (l1.length : Int) := of_decide_eq_true (by first | (with_reducible assumption) | assumption)
                                obtain ⟨ad154, e154, hx154_0⟩ := Kd.at_int (Kd.V_reads' HO_1.out).2.2 x8_2 p154 q154
                                cases e154
                                replace p154 := eq_true p154
                                replace q154 := eq_true q154
                                try go_wp2_with (first | ((with_reducible refine gate_callee (f := 16) rfl ?_); refine goesL_ (some 44) rfl rfl Tryd.func16 (by kernel_rfl) rfl #[.int .i64 (rd l1 x8_2)] rfl (by (try simp only [List.map_toArray, List.map_cons, List.map_nil]); first | done | rfl | (simp only [List.length_drop, List.length_take]; rfl)) ?_; (with_reducible refine (backreachref14_Var.calls (rd l1 x8_2) t155 _ A26.out).mono ?_); rintro e w' ⟨rfl, ⟨nd, rfl⟩⟩; refine ⟨_, rfl, ?_⟩))
                                (try (rw [drewN_self wr]; generalize hq_ : World.drewN wr _ = wr; have n0_ : Aside0 (Kd.V (Kd.slice 3 (Kd.int .i64)) 23 wr w.heap.size (fun k_ => ((P0_ k_ ∨ P1_ k_) ∨ w.heap.size ≤ k_) ∧ some k_ ≠ (v152 : Value).ownBlock) (.slice A0 l0.length c0) l0) := ⟨by rw [← hq_]; exact (by (with_reducible repeat (first | apply Kd.V_alloc | apply Kd.V_drewN | apply Kd.V_drew)); exact HO_0.out)⟩; have n1_ : Aside0 (Kd.V (Kd.int .i64) 3 wr w.heap.size (fun k_ => ((P0_ k_ ∨ P1_ k_) ∨ w.heap.size ≤ k_) ∧ some k_ ≠ (v152 : Value).ownBlock) (.slice (some ad154) l1.length c1) l1) := ⟨by rw [← hq_]; exact (by (with_reducible repeat (first | apply Kd.V_alloc | apply Kd.V_drewN | apply Kd.V_drew)); exact HO_1.out)⟩; have n2_ : Aside0 (Kd.R (Kd.int .i64) 3 wr w.heap.size (fun k_ => (w.heap.size ≤ k_)) v152 x7_2) := ⟨by rw [← hq_]; exact (by (with_reducible repeat (first | apply Kd.R_alloc | apply Kd.R_drewN | apply Kd.R_drew)); exact HO_7.out)⟩; have n3_ : Aside0 (Below w.heap.size w wr) := ⟨by rw [← hq_]; exact (by repeat (first | (with_reducible first | exact HB.out | apply below_alloc | apply pw_below_drewN | apply below_drew1) | exact HB.out))⟩; clear HO_0 HO_1 HO_7 HB hq_; have HO_0 := n0_; have HO_1 := n1_; have HO_7 := n2_; have HB := n3_; clear n0_ n1_ n2_ n3_))
                                have n0_ := Aside0.mk (Kd.V_drew HO_0.out)
                                have n1_ := Aside0.mk (Kd.V_drew HO_1.out)
                                have n2_ := Aside0.mk (Kd.R_drew HO_7.out)
                                have n3_ := Aside0.mk (below_drew1 HB.out)
                                clear HO_0
                                clear HO_1
                                clear HO_7
                                clear HB
                                have HO_0 := n0_
                                have HO_1 := n1_
                                have HO_7 := n2_
                                have HB := n3_
                                clear n0_ n1_ n2_ n3_
                                obtain ⟨Ao45, co45, eo45⟩ := Kd.R_slice HO_7.out
                                (first | subst eo45 | (injection eo45 with f1_ f2_ f3_; have f4_ := f1_.symm; have f5_ := f3_.symm; clear f1_ f2_ f3_; subst f4_; subst f5_))
                                have p156 : 0 ≤ (t155 : Int) := of_decide_eq_true (by first | (with_reducible assumption) | assumption)
                                have q156 : t155 < (x7_2.length : Int) := of_decide_eq_true (by first | (with_reducible assumption) | assumption)
                                obtain ⟨ad156, e156, hx156_0⟩ := Kd.at_int (Kd.R_reads' HO_7.out).2.2 t155 p156 q156
                                cases e156
                                replace p156 := eq_true p156
                                replace q156 := eq_true q156
                                have p160 : 0 ≤ (t155 : Int) := of_decide_eq_true (by first | (with_reducible assumption) | assumption)
                                have q160 : t155 < (x7_2.length : Int) := of_decide_eq_true (by first | (with_reducible assumption) | assumption)
                                obtain ⟨ad160, e160, hx160_0⟩ := Kd.at_int (Kd.R_reads' HO_7.out).2.2 t155 p160 q160
                                obtain rfl : ad156 = ad160 := (by injection e160)
                                replace p160 := eq_true p160
                                replace q160 := eq_true q160
                                have p161 : 0 ≤ (x8_2 : Int) := of_decide_eq_true (by first | (with_reducible assumption) | assumption)
                                have q161 : x8_2 < (l1.length : Int) := of_decide_eq_true (by first | (with_reducible assumption) | assumption)
                                obtain ⟨ad161, e161, hx161_0⟩ := Kd.at_int (Kd.V_reads' HO_1.out).2.2 x8_2 p161 q161
                                obtain rfl : ad154 = ad161 := (by injection e161)
                                replace p161 := eq_true p161
                                replace q161 := eq_true q161
                                refine start_ (n := 17) (S := fun w' => w'.cell? (ad156.add (t155).toNat) = some (.int .i64 (rd x7_2 t155)) ∧ w'.cell? (ad156.add (t155).toNat) = some (.int .i64 (rd x7_2 t155)) ∧ w'.cell? (ad154.add (x8_2).toNat) = some (.int .i64 (rd l1 x8_2))) (ds := []) #[false, false, false, false, false, false, false, false, false, false, false, false, false, false, false, false, false] (by kernel_rfl) rfl rfl ⟨hx156_0, hx160_0, hx161_0⟩ (fun hHeld => ?_); refine with_tabW backreachref14_Spread.tab9 backreachref14_Spread.bits9 (fun HT_ HW_ => ?_)
                                generalize wr.drew = w44 at HO_0 HO_1 HO_7 HB hx156_0 hx160_0 hx161_0 hHeld ⊢
                                refine pure_ (i := 0) (N := some 45) (v := ?_) (a' := ?_) #[true, false, false, false, false, false, false, false, false, false, false, false, false, false, false, false, false] rfl rfl (any_of HT_.out (by kernel_rfl)) (fun _ _ _ h => h) (Or.inl ⟨by rfl, ?_⟩) ?_ ?_
                                rotate_left
                                · intro w'
                                  go_simp
                                  with_reducible rfl
                                rotate_left
                                · simp only [Act.put, List.setIfInBounds_toArray, List.set_cons_zero, List.set_cons_succ, i64_w, i32_w]
                                  rfl
                                refine pure_ (i := 1) (N := some 46) (v := ?_) (a' := ?_) #[true, true, false, false, false, false, false, false, false, false, false, false, false, false, false, false, false] rfl rfl (any_of HT_.out (by kernel_rfl)) (fun _ _ _ h => h) (Or.inl ⟨by rfl, ?_⟩) ?_ ?_
                                rotate_left
                                · intro w'
                                  go_simp
                                  with_reducible rfl
                                rotate_left
                                · simp only [Act.put, List.setIfInBounds_toArray, List.set_cons_zero, List.set_cons_succ, i64_w, i32_w]
                                  rfl
                                refine pure_ (i := 2) (N := some 47) (v := ?_) (a' := ?_) #[true, true, true, false, false, false, false, false, false, false, false, false, false, false, false, false, false] rfl rfl (any_of HT_.out (by kernel_rfl)) (fun _ _ _ h => h) (Or.inl ⟨by rfl, ?_⟩) ?_ ?_
                                rotate_left
                                · intro w'
                                  go_simp
                                  with_reducible rfl
                                rotate_left
                                · simp only [Act.put, List.setIfInBounds_toArray, List.set_cons_zero, List.set_cons_succ, i64_w, i32_w]
                                  rfl
                                refine take_ (i := 3) (N := some 48) (v := ?_) (a' := ?_) #[true, true, true, true, false, false, false, false, false, false, false, false, false, false, false, false, false] rfl rfl (take_ofW HT_.out HW_.out (by kernel_rfl)) (fun _ _ _ h => h) (Or.inl ⟨by rfl, ?_⟩) hHeld ?_ ?_
                                rotate_left
                                · rintro w' ⟨s0, s1, s2⟩
                                  go_simp
                                  with_reducible rfl
                                rotate_left
                                · simp only [Act.put, List.setIfInBounds_toArray, List.set_cons_zero, List.set_cons_succ, i64_w, i32_w]
                                  rfl
                                refine pure_ (i := 4) (N := some 49) (v := ?_) (a' := ?_) #[true, true, true, true, true, false, false, false, false, false, false, false, false, false, false, false, false] rfl rfl (any_of HT_.out (by kernel_rfl)) (fun _ _ _ h => h) (Or.inl ⟨by rfl, ?_⟩) ?_ ?_
                                rotate_left
                                · intro w'
                                  go_simp
                                  with_reducible rfl
                                rotate_left
                                · simp only [Act.put, List.setIfInBounds_toArray, List.set_cons_zero, List.set_cons_succ, i64_w, i32_w]
                                  rfl
                                refine pure_ (i := 5) (N := some 50) (v := ?_) (a' := ?_) #[true, true, true, true, true, true, false, false, false, false, false, false, false, false, false, false, false] rfl rfl (any_of HT_.out (by kernel_rfl)) (fun _ _ _ h => h) (Or.inl ⟨by rfl, ?_⟩) ?_ ?_
                                rotate_left
                                · intro w'
                                  go_simp
                                  with_reducible rfl
                                rotate_left
                                · simp only [Act.put, List.setIfInBounds_toArray, List.set_cons_zero, List.set_cons_succ, i64_w, i32_w]
                                  rfl
                                refine pure_ (i := 6) (N := some 51) (v := ?_) (a' := ?_) #[true, true, true, true, true, true, true, false, false, false, false, false, false, false, false, false, false] rfl rfl (any_of HT_.out (by kernel_rfl)) (fun _ _ _ h => h) (Or.inl ⟨by rfl, ?_⟩) ?_ ?_
                                rotate_left
                                · intro w'
                                  go_simp
                                  with_reducible rfl
                                rotate_left
                                · simp only [Act.put, List.setIfInBounds_toArray, List.set_cons_zero, List.set_cons_succ, i64_w, i32_w]
                                  rfl
                                refine pure_ (i := 7) (N := some 52) (v := ?_) (a' := ?_) #[true, true, true, true, true, true, true, true, false, false, false, false, false, false, false, false, false] rfl rfl (any_of HT_.out (by kernel_rfl)) (fun _ _ _ h => h) (Or.inl ⟨by rfl, ?_⟩) ?_ ?_
                                rotate_left
                                · intro w'
                                  go_simp
                                  with_reducible rfl
                                rotate_left
                                · simp only [Act.put, List.setIfInBounds_toArray, List.set_cons_zero, List.set_cons_succ, i64_w, i32_w]
                                  rfl
                                refine pure_ (i := 8) (N := some 53) (v := ?_) (a' := ?_) #[true, true, true, true, true, true, true, true, true, false, false, false, false, false, false, false, false] rfl rfl (any_of HT_.out (by kernel_rfl)) (fun _ _ _ h => h) (Or.inl ⟨by rfl, ?_⟩) ?_ ?_
                                rotate_left
                                · intro w'
                                  go_simp
                                  with_reducible rfl
                                rotate_left
                                · simp only [Act.put, List.setIfInBounds_toArray, List.set_cons_zero, List.set_cons_succ, i64_w, i32_w]
                                  rfl
                                refine pure_ (i := 10) (N := some 55) (v := ?_) (a' := ?_) #[true, true, true, true, true, true, true, true, true, false, true, false, false, false, false, false, false] rfl rfl (any_of HT_.out (by kernel_rfl)) (fun _ _ _ h => h) (Or.inl ⟨by rfl, ?_⟩) ?_ ?_
                                rotate_left
                                · intro w'
                                  go_simp
                                  with_reducible rfl
                                rotate_left
                                · simp only [Act.put, List.setIfInBounds_toArray, List.set_cons_zero, List.set_cons_succ, i64_w, i32_w]
                                  rfl
                                refine pure_ (i := 11) (N := some 56) (v := ?_) (a' := ?_) #[true, true, true, true, true, true, true, true, true, false, true, true, false, false, false, false, false] rfl rfl (any_of HT_.out (by kernel_rfl)) (fun _ _ _ h => h) (Or.inl ⟨by rfl, ?_⟩) ?_ ?_
                                rotate_left
                                · intro w'
                                  go_simp
                                  with_reducible rfl
                                rotate_left
                                · simp only [Act.put, List.setIfInBounds_toArray, List.set_cons_zero, List.set_cons_succ, i64_w, i32_w]
                                  rfl
                                refine pure_ (i := 12) (N := some 57) (v := ?_) (a' := ?_) #[true, true, true, true, true, true, true, true, true, false, true, true, true, false, false, false, false] rfl rfl (any_of HT_.out (by kernel_rfl)) (fun _ _ _ h => h) (Or.inl ⟨by rfl, ?_⟩) ?_ ?_
                                rotate_left
                                · intro w'
                                  go_simp
                                  with_reducible rfl
                                rotate_left
                                · simp only [Act.put, List.setIfInBounds_toArray, List.set_cons_zero, List.set_cons_succ, i64_w, i32_w]
                                  rfl
                                refine take_ (i := 9) (N := some 54) (v := ?_) (a' := ?_) #[true, true, true, true, true, true, true, true, true, true, true, true, true, false, false, false, false] rfl rfl (take_ofW HT_.out HW_.out (by kernel_rfl)) (fun _ _ _ h => h) (Or.inl ⟨by rfl, ?_⟩) hHeld ?_ ?_
                                rotate_left
                                · rintro w' ⟨s0, s1, s2⟩
                                  go_simp
                                  with_reducible rfl
                                rotate_left
                                · simp only [Act.put, List.setIfInBounds_toArray, List.set_cons_zero, List.set_cons_succ, i64_w, i32_w]
                                  rfl
                                refine take_ (i := 13) (N := some 58) (v := ?_) (a' := ?_) #[true, true, true, true, true, true, true, true, true, true, true, true, true, true, false, false, false] rfl rfl (take_ofW HT_.out HW_.out (by kernel_rfl)) (fun _ _ _ h => h) (Or.inl ⟨by rfl, ?_⟩) hHeld ?_ ?_
                                rotate_left
                                · rintro w' ⟨s0, s1, s2⟩
                                  go_simp
                                  with_reducible rfl
                                rotate_left
                                · simp only [Act.put, List.setIfInBounds_toArray, List.set_cons_zero, List.set_cons_succ, i64_w, i32_w]
                                  rfl
                                refine one_ (i := 14) (N := some 59) #[true, true, true, true, true, true, true, true, true, true, true, true, true, true, true, false, false] rfl rfl (one_of HT_.out (by kernel_rfl)) (by decide) (fun K hK => ?_)
                                refine goes_ Tryd.func36 (by kernel_rfl) rfl #[.int .i64 (rd l1 x8_2)] (by rfl) rfl rfl (by (try simp only [List.map_toArray, List.map_cons, List.map_nil]); first | done | rfl | (simp only [List.length_drop, List.length_take]; rfl)) ?_
                                with_reducible refine (backreachref14_sign.calls (rd l1 x8_2) t162 _ A36.out).mono ?_
                                rintro e w' ⟨rfl, ⟨nd, rfl⟩⟩
                                refine ⟨_, rfl, ?_⟩
                                refine hK.out _ _ ⟨hHeld.1, hHeld.2.1, hHeld.2.2⟩ (fun hHeld => ?_)
                                clear hK K
                                refine norm_ (a' := ?_) ?_ ?_
                                rotate_left
                                · show Act.put _ (some 59) _ = _
                                  simp only [Act.put, List.setIfInBounds_toArray, List.set_cons_zero, List.set_cons_succ, i64_w, i32_w]
                                  rfl
                                refine pure_ (i := 15) (N := some 60) (v := ?_) (a' := ?_) #[true, true, true, true, true, true, true, true, true, true, true, true, true, true, true, true, false] rfl rfl (any_of HT_.out (by kernel_rfl)) (fun _ _ _ h => h) (Or.inl ⟨by rfl, ?_⟩) ?_ ?_
                                rotate_left
                                · intro w'
                                  go_simp
                                  with_reducible rfl
                                rotate_left
                                · simp only [Act.put, List.setIfInBounds_toArray, List.set_cons_zero, List.set_cons_succ, i64_w, i32_w]
                                  rfl
                                refine pure_ (i := 16) (N := some 61) (v := ?_) (a' := ?_) #[true, true, true, true, true, true, true, true, true, true, true, true, true, true, true, true, true] rfl rfl (any_of HT_.out (by kernel_rfl)) (fun _ _ _ h => h) (Or.inl ⟨by rfl, ?_⟩) ?_ ?_
                                rotate_left
                                · intro w'
                                  go_simp
                                  with_reducible rfl
                                rotate_left
                                · simp only [Act.put, List.setIfInBounds_toArray, List.set_cons_zero, List.set_cons_succ, i64_w, i32_w]
                                  rfl
                                refine done_ (done_of HT_.out (by kernel_rfl)) ?_
                                try go_wp2
                                go_ret2
                                exact ⟨_, by first | rfl | (simp [errW_none, errW_some] <;> rfl) | (simp only [← hji14]; first | rfl | (simp [errW_none, errW_some] <;> rfl)) | (simp [*, errW_none, errW_some] <;> rfl), by first | exact Kd.R_nil _ _ _ _ _ | exact Kd.N_nil _ _ _ _ _ | exact Kd.V_nil _ _ _ _ _ | exact Kd.Q_nil _ _ _ _ _ | exact Kd.S_nil _ _ _ _ _, by repeat (first | (with_reducible first | exact HB.out | apply below_alloc | apply pw_below_drewN | apply below_drew1) | exact HB.out)⟩
                          · rw [if_neg c28] at H
                            exact absurd H (by simp)
                        · rw [if_neg c27] at H
                          exact absurd H (by simp)
                      · rw [if_neg c25] at H
                        exact absurd H (by simp)
                    · rw [if_neg c24] at H
                      have c24b0 : decide (x8_2 < (l1.length : Int)) = false := decide_eq_false c24
                      clear c24
                      have H' := Aside0.mk H
                      clear H
                      go_wp2
                      go_loopg [10] k2 (fun kq v10 w' => ∃ (x7_3 : List Int) (x10_3 : Bool), v10 = .bool x10_3 ∧ Aside0 (backreachref14_Spread.l1 kq l0 t150 x7_3 x10_3 = some (r1, r2)) ∧ Aside0 (kq ≤ k2) ∧ Aside0 (Kd.V (Kd.slice 3 (Kd.int .i64)) 23 w' w.heap.size (fun k_ => ((P0_ k_ ∨ P1_ k_) ∨ w.heap.size ≤ k_) ∧ some k_ ≠ (v152 : Value).ownBlock) (.slice A0 l0.length c0) l0) ∧ Aside0 (Kd.R (Kd.int .i64) 3 w' w.heap.size (fun k_ => (w.heap.size ≤ k_)) v152 x7_3) ∧ Aside0 (Below w.heap.size w w'))
                      case atStart => exact ⟨(x7_2), (true), (by first | rfl | (simp; done) | (simp [*]; done)), H', ⟨Nat.le_refl _⟩, ⟨by (with_reducible repeat (first | apply Kd.V_alloc | apply Kd.V_drewN | apply Kd.V_drew)); exact HO_0.out⟩, ⟨by (with_reducible repeat (first | apply Kd.R_alloc | apply Kd.R_drewN | apply Kd.R_drew)); exact HO_7.out⟩, ⟨by repeat (first | (with_reducible first | exact HB.out | apply below_alloc | apply pw_below_drewN | apply below_drew1) | exact HB.out)⟩⟩
                      case round =>
                        clear H'
                        try clear c1
                        try clear p1
                        try clear q1
                        try clear hx1
                        try clear c2
                        try clear p2
                        try clear c3
                        try clear p3
                        try clear q3
                        try clear hx3
                        try clear hf3
                        try clear p6
                        try clear p15
                        try clear q15
                        try clear hx15
                        try clear c16
                        try clear p16
                        try clear q16
                        try clear hx16
                        try clear c24
                        try clear c24b0
                        try clear c25
                        try clear c25b0
                        try clear c27
                        try clear c27b0
                        try clear c28
                        try clear c28b0
                        try clear c29
                        try clear c29b0
                        try clear c29b1
                        try clear p31
                        try clear q31
                        try clear hx31
                        try clear hf31
                        try clear c36
                        try clear c37
                        try clear c37b0
                        try clear c37b1
                        try clear p39
                        try clear q39
                        try clear hx39
                        try clear hf39
                        try clear hx154_0
                        try clear hx156_0
                        try clear hx157_0
                        try clear hx160_0
                        try clear hx161_0
                        try clear hx163_0
                        try clear hx31_0
                        try clear hx39_0
                        try clear p154
                        try clear p156
                        try clear p157
                        try clear p160
                        try clear p161
                        try clear p163
                        try clear p31
                        try clear p39
                        try clear q154
                        try clear q156
                        try clear q157
                        try clear q160
                        try clear q161
                        try clear q163
                        try clear q31
                        try clear q39
                        obtain ⟨x7_3, x10_3, rfl, HA, HK3, HO_0, HO_7, HB⟩ := hrel
                        cases gk with
                        | zero => exact absurd HA.out (by simp [backreachref14_Spread.l1])
                        | succ k3 =>
                          have H := HA.out
                          clear HA
                          simp only [backreachref14_Spread.l1] at H
                          by_cases c46 : x10_3 = true
                          · subst c46
                            have H1 : (backreachref14_Spread.l2 k3 l0 t150 x7_3 false 0) = some (r1, r2) := by rw [if_pos rfl] at H; exact H
                            clear H
                            have H := H1
                            clear H1
                            have H' := Aside0.mk H
                            clear H
                            go_wp2
                            go_loopg [10, 11] k3 (fun kq v10 v11 w' => ∃ (x7_4 : List Int) (x10_4 : Bool) (x11_4 : Int), v10 = .bool x10_4 ∧ v11 = .int .i64 x11_4 ∧ Aside0 (backreachref14_Spread.l2 kq l0 t150 x7_4 x10_4 x11_4 = some (r1, r2)) ∧ Aside0 (kq ≤ k3) ∧ Aside0 (Kd.V (Kd.slice 3 (Kd.int .i64)) 23 w' w.heap.size (fun k_ => ((P0_ k_ ∨ P1_ k_) ∨ w.heap.size ≤ k_) ∧ some k_ ≠ (v152 : Value).ownBlock) (.slice A0 l0.length c0) l0) ∧ Aside0 (Kd.R (Kd.int .i64) 3 w' w.heap.size (fun k_ => (w.heap.size ≤ k_)) v152 x7_4) ∧ Aside0 (Below w.heap.size w w'))
                            case atStart => exact ⟨(x7_3), (false), (0), (by first | rfl | (simp; done) | (simp [*]; done)), (by first | rfl | (simp; done) | (simp [*]; done)), H', ⟨Nat.le_refl _⟩, ⟨by (with_reducible repeat (first | apply Kd.V_alloc | apply Kd.V_drewN | apply Kd.V_drew)); exact HO_0.out⟩, ⟨by (with_reducible repeat (first | apply Kd.R_alloc | apply Kd.R_drewN | apply Kd.R_drew)); exact HO_7.out⟩, ⟨by repeat (first | (with_reducible first | exact HB.out | apply below_alloc | apply pw_below_drewN | apply below_drew1) | exact HB.out)⟩⟩
                            case round =>
                              clear H'
                              try clear c1
                              try clear p1
                              try clear q1
                              try clear hx1
                              try clear c2
                              try clear p2
                              try clear c3
                              try clear p3
                              try clear q3
                              try clear hx3
                              try clear hf3
                              try clear c4
                              try clear p6
                              try clear p15
                              try clear q15
                              try clear hx15
                              try clear c16
                              try clear p16
                              try clear q16
                              try clear hx16
                              try clear c24
                              try clear c24b0
                              try clear c25
                              try clear c25b0
                              try clear c27
                              try clear c27b0
                              try clear c28
                              try clear c28b0
                              try clear c29
                              try clear c29b0
                              try clear c29b1
                              try clear p31
                              try clear q31
                              try clear hx31
                              try clear hf31
                              try clear c36
                              try clear c37
                              try clear c37b0
                              try clear c37b1
                              try clear p39
                              try clear q39
                              try clear hx39
                              try clear hf39
                              try clear c46
                              try clear hx154_0
                              try clear hx156_0
                              try clear hx157_0
                              try clear hx160_0
                              try clear hx161_0
                              try clear hx163_0
                              try clear hx31_0
                              try clear hx39_0
                              try clear p1
                              try clear p15
                              try clear p154
                              try clear p156
                              try clear p157
                              try clear p16
                              try clear p160
                              try clear p161
                              try clear p163
                              try clear p2
                              try clear p3
                              try clear p31
                              try clear p39
                              try clear p6
                              try clear q1
                              try clear q15
                              try clear q154
                              try clear q156
                              try clear q157
                              try clear q16
                              try clear q160
                              try clear q161
                              try clear q163
                              try clear q3
                              try clear q31
                              try clear q39
                              obtain ⟨x7_4, x10_4, x11_4, rfl, rfl, HA, HK4, HO_0, HO_7, HB⟩ := hrel
                              cases gk with
                              | zero => exact absurd HA.out (by simp [backreachref14_Spread.l2])
                              | succ k4 =>
                                have H := HA.out
                                clear HA
                                simp only [backreachref14_Spread.l2] at H
                                by_cases c47 : x11_4 < (l0.length : Int)
                                · rw [if_pos c47] at H
                                  have c47b0 : decide (x11_4 < (l0.length : Int)) = true := decide_eq_true c47
                                  clear c47
                                  by_cases c48 : 0 ≤ x11_4
                                  · rw [if_pos c48] at H
                                    have c48b0 : decide (0 ≤ x11_4) = true := decide_eq_true c48
                                    clear c48
                                    replace H := Option.bind_eq_some_iff.mp H
                                    obtain ⟨t167, A490, H⟩ := H
                                    replace H : (if (t167.length : Int) = 0 then (some (([] : List Int), false)) else (if (t167.length : Int) = 1 then (if 0 < (t167.length : Int) then ((backreachref14_Var.f (rd t167 0)).bind fun t171 => (if 0 ≤ t171 then (if t171 < (x7_4.length : Int) then (backreachref14_Spread.j4 k4 l0 t150 x7_4 x10_4 x11_4 t167 ((rd x7_4 t171) == 0)) else (none)) else (none))) else (none)) else (backreachref14_Spread.j4 k4 l0 t150 x7_4 x10_4 x11_4 t167 false))) = some (r1, r2) := H
                                    have A49 := Aside0.mk A490
                                    clear A490
                                    by_cases c50 : (t167.length : Int) = 0
                                    · rw [if_pos c50] at H
                                      have c50b0 : ((t167.length : Int) == 0) = true := beq_iff_eq.mpr c50
                                      have c50b1 : ((t167.length : Int) != 0) = false := bne_eq_false_iff_eq.mpr c50
                                      clear c50
                                      simp only [Option.some.injEq, Prod.mk.injEq] at H
                                      obtain ⟨rfl, rfl⟩ := H
                                      have p166 : 0 ≤ (x11_4 : Int) := of_decide_eq_true (by first | (with_reducible assumption) | assumption)
                                      have q166 : x11_4 < (l0.length : Int) := of_decide_eq_true (by first | (with_reducible assumption) | assumption)
                                      obtain ⟨ad166, A166_0, c166_0, e166, hx166_0, hl166_0, hi166_0⟩ := at_L1 (Kd.V_reads' HO_0.out).2.2 x11_4 p166 q166
                                      cases e166
                                      obtain ⟨ce166, hce166, hMe166, hcc166⟩ := Kd.V_get HO_0.out [] x11_4 p166 (by first | exact q166 | exact of_decide_eq_true (by first | (with_reducible assumption) | assumption) | (have e_ := (Kd.V_reads' HO_0.out).1; omega))
                                      obtain ⟨ua166_0, uc166_0, rfl, ul166_0, ge166_0⟩ := Kd.FK_slice_open hMe166
                                      have hv166_0 := hcc166 0 _ rfl
                                      rw [Nat.add_zero, show ((Kd.slice 3 (Kd.int .i64))).sz = 1 from rfl, Nat.mul_one] at hv166_0
                                      replace hv166_0 := Option.some.inj (hv166_0.symm.trans hx166_0)
                                      injection hv166_0 with hva_ hvn_ hvc_
                                      rw [hva_] at ge166_0
                                      rw [hvc_] at ul166_0
                                      have HL166_0 := Aside0.mk (show Kd.V (Kd.int .i64) 3 _ w.heap.size _ _ (rd_L1 l0 x11_4) from Kd.V_mk ul166_0 ge166_0)
                                      clear hva_ hvn_ hvc_ ge166_0 ul166_0
                                      clear hcc166 hce166
                                      have HR166_0 := Aside0.mk hi166_0
                                      have HC166_0 := Aside0.mk hl166_0
                                      clear hi166_0 hl166_0
                                      replace p166 := eq_true p166
                                      replace q166 := eq_true q166
                                      obtain ⟨Ao51, co51, eo51⟩ := Kd.R_slice HO_7.out
                                      subst eo51
                                      go_wp2_with (first | ((with_reducible refine gate_callee (f := 37) rfl ?_); refine goesL_ (some 82) rfl rfl Tryd.func37 (by kernel_rfl) rfl #[.slice A166_0 (rd_L1 l0 x11_4).length c166_0, .slice Ao51 x7_4.length co51] rfl (by (try simp only [List.map_toArray, List.map_cons, List.map_nil]); first | done | rfl | (simp only [List.length_drop, List.length_take]; rfl)) ?_; (with_reducible refine (backreachref14_left.calls k4 _ _ (rd_L1 l0 x11_4) _ _ x7_4 t167 _ ?side1 ?side2 ?side3 ?side4 A49.out).mono ?_); (case side1 => repeat (first | exact (by repeat (first | (with_reducible exact HR166_0.out) | (with_reducible refine Kd.C_alloc ?_ _) | (with_reducible refine Kd.C_drewN ?_ _) | (with_reducible refine Kd.C_drew ?_) | exact HR166_0.out)) | (with_reducible refine Kd.C_alloc ?_ _) | (with_reducible refine Kd.C_drewN ?_ _) | (with_reducible refine Kd.C_drew ?_))); (case side2 => exact HC166_0.out); (case side3 => repeat (first | exact (Kd.R_reads' HO_7.out).2.2 | (with_reducible refine Kd.C_alloc ?_ _) | (with_reducible refine Kd.C_drewN ?_ _) | (with_reducible refine Kd.C_drew ?_))); (case side4 => exact (Kd.R_reads' HO_7.out).2.1); rintro e w52 ⟨v168, rfl, ho0, hb⟩; refine ⟨_, rfl, ?_⟩; have n0_ := Aside0.mk (Kd.V_elder' (by (with_reducible repeat (first | apply Kd.V_alloc | apply Kd.V_drewN | apply Kd.V_drew)); exact HO_0.out) (Kd.R_base ho0) hb); have n1_ := Aside0.mk (Kd.R_elder' (by (with_reducible repeat (first | apply Kd.R_alloc | apply Kd.R_drewN | apply Kd.R_drew)); exact HO_7.out) (Kd.R_base ho0) hb); have n2_ := Aside0.mk (Kd.V_elder' (by (with_reducible repeat (first | apply Kd.V_alloc | apply Kd.V_drewN | apply Kd.V_drew)); exact HL166_0.out) (Kd.R_base ho0) hb); have n3_ := Aside0.mk (Kd.R_lower (Kd.R_new' (Kd.R_newM (M := fun k_ => (w.heap.size ≤ k_)) ho0 (below_size (by repeat (first | (with_reducible first | exact HB.out | apply below_alloc | apply pw_below_drewN | apply below_drew1) | exact HB.out))) (fun k_ h_ => h_)) (Kd.R_lt (by (with_reducible repeat (first | apply Kd.R_alloc | apply Kd.R_drewN | apply Kd.R_drew)); exact HO_7.out))) (below_size (by repeat (first | (with_reducible first | exact HB.out | apply below_alloc | apply pw_below_drewN | apply below_drew1) | exact HB.out)))); have n4_ := Aside0.mk (Kd.C_below (by repeat (first | (with_reducible exact HR166_0.out) | (with_reducible refine Kd.C_alloc ?_ _) | (with_reducible refine Kd.C_drewN ?_ _) | (with_reducible refine Kd.C_drew ?_) | exact HR166_0.out)) hb); have n5_ := Aside0.mk (below_step (by repeat (first | (with_reducible first | exact HB.out | apply below_alloc | apply pw_below_drewN | apply below_drew1) | exact HB.out)) hb); clear HO_0; clear HO_7; clear HL166_0; clear HR166_0; clear HB; have HO_0 := n0_; have HO_7 := n1_; have HL166_0 := n2_; have HO169 := n3_; have HR166_0 := n4_; have HB := n5_; clear n0_ n1_ n2_ n3_ n4_ n5_; (try clear hb); (try clear hb2); (try clear hk); (try clear hi); (try clear ho0); obtain ⟨Ao53, co53, eo53⟩ := Kd.R_slice HO169.out; subst eo53))
                                      go_ret2
                                      exact ⟨_, by first | rfl | (simp [errW_none, errW_some] <;> rfl) | (simp only [← hji14]; first | rfl | (simp [errW_none, errW_some] <;> rfl)) | (simp [*, errW_none, errW_some] <;> rfl), by first | exact Kd.R_nil _ _ _ _ _ | exact Kd.N_nil _ _ _ _ _ | exact Kd.V_nil _ _ _ _ _ | exact Kd.Q_nil _ _ _ _ _ | exact Kd.S_nil _ _ _ _ _, by repeat (first | (with_reducible first | exact HB.out | apply below_alloc | apply pw_below_drewN | apply below_drew1) | exact HB.out)⟩
                                    · rw [if_neg c50] at H
                                      have c50b0 : ((t167.length : Int) == 0) = false := beq_eq_false_iff_ne.mpr c50
                                      have c50b1 : ((t167.length : Int) != 0) = true := bne_iff_ne.mpr c50
                                      have c50b2 : ¬ (t167 = []) := fun h_ => c50 (by rw [h_]; rfl)
                                      have HC54 := Aside0.mk H
                                      clear H
                                      have p166 : 0 ≤ (x11_4 : Int) := of_decide_eq_true (by first | (with_reducible assumption) | assumption)
                                      have q166 : x11_4 < (l0.length : Int) := of_decide_eq_true (by first | (with_reducible assumption) | assumption)
                                      obtain ⟨ad166, A166_0, c166_0, e166, hx166_0, hl166_0, hi166_0⟩ := at_L1 (Kd.V_reads' HO_0.out).2.2 x11_4 p166 q166
                                      cases e166
                                      obtain ⟨ce166, hce166, hMe166, hcc166⟩ := Kd.V_get HO_0.out [] x11_4 p166 (by first | exact q166 | exact of_decide_eq_true (by first | (with_reducible assumption) | assumption) | (have e_ := (Kd.V_reads' HO_0.out).1; omega))
                                      obtain ⟨ua166_0, uc166_0, rfl, ul166_0, ge166_0⟩ := Kd.FK_slice_open hMe166
                                      have hv166_0 := hcc166 0 _ rfl
                                      rw [Nat.add_zero, show ((Kd.slice 3 (Kd.int .i64))).sz = 1 from rfl, Nat.mul_one] at hv166_0
                                      replace hv166_0 := Option.some.inj (hv166_0.symm.trans hx166_0)
                                      injection hv166_0 with hva_ hvn_ hvc_
                                      rw [hva_] at ge166_0
                                      rw [hvc_] at ul166_0
                                      have HL166_0 := Aside0.mk (show Kd.V (Kd.int .i64) 3 _ w.heap.size _ _ (rd_L1 l0 x11_4) from Kd.V_mk ul166_0 ge166_0)
                                      clear hva_ hvn_ hvc_ ge166_0 ul166_0
                                      clear hcc166 hce166
                                      have HR166_0 := Aside0.mk hi166_0
                                      have HC166_0 := Aside0.mk hl166_0
                                      clear hi166_0 hl166_0
                                      replace p166 := eq_true p166
                                      replace q166 := eq_true q166
                                      obtain ⟨Ao55, co55, eo55⟩ := Kd.R_slice HO_7.out
                                      subst eo55
                                      go_upto_region 21 with (first | ((with_reducible refine gate_callee (f := 37) rfl ?_); refine goesL_ (some 82) rfl rfl Tryd.func37 (by kernel_rfl) rfl #[.slice A166_0 (rd_L1 l0 x11_4).length c166_0, .slice Ao55 x7_4.length co55] rfl (by (try simp only [List.map_toArray, List.map_cons, List.map_nil]); first | done | rfl | (simp only [List.length_drop, List.length_take]; rfl)) ?_; (with_reducible refine (backreachref14_left.calls k4 _ _ (rd_L1 l0 x11_4) _ _ x7_4 t167 _ ?side1 ?side2 ?side3 ?side4 A49.out).mono ?_); (case side1 => repeat (first | exact (by repeat (first | (with_reducible exact HR166_0.out) | (with_reducible refine Kd.C_alloc ?_ _) | (with_reducible refine Kd.C_drewN ?_ _) | (with_reducible refine Kd.C_drew ?_) | exact HR166_0.out)) | (with_reducible refine Kd.C_alloc ?_ _) | (with_reducible refine Kd.C_drewN ?_ _) | (with_reducible refine Kd.C_drew ?_))); (case side2 => exact HC166_0.out); (case side3 => repeat (first | exact (Kd.R_reads' HO_7.out).2.2 | (with_reducible refine Kd.C_alloc ?_ _) | (with_reducible refine Kd.C_drewN ?_ _) | (with_reducible refine Kd.C_drew ?_))); (case side4 => exact (Kd.R_reads' HO_7.out).2.1); rintro e w56 ⟨v168, rfl, ho0, hb⟩; refine ⟨_, rfl, ?_⟩; have n0_ := Aside0.mk (Kd.V_elder' (by (with_reducible repeat (first | apply Kd.V_alloc | apply Kd.V_drewN | apply Kd.V_drew)); exact HO_0.out) (Kd.R_base ho0) hb); have n1_ := Aside0.mk (Kd.R_elder' (by (with_reducible repeat (first | apply Kd.R_alloc | apply Kd.R_drewN | apply Kd.R_drew)); exact HO_7.out) (Kd.R_base ho0) hb); have n2_ := Aside0.mk (Kd.V_elder' (by (with_reducible repeat (first | apply Kd.V_alloc | apply Kd.V_drewN | apply Kd.V_drew)); exact HL166_0.out) (Kd.R_base ho0) hb); have n3_ := Aside0.mk (Kd.R_lower (Kd.R_new' (Kd.R_newM (M := fun k_ => (w.heap.size ≤ k_)) ho0 (below_size (by repeat (first | (with_reducible first | exact HB.out | apply below_alloc | apply pw_below_drewN | apply below_drew1) | exact HB.out))) (fun k_ h_ => h_)) (Kd.R_lt (by (with_reducible repeat (first | apply Kd.R_alloc | apply Kd.R_drewN | apply Kd.R_drew)); exact HO_7.out))) (below_size (by repeat (first | (with_reducible first | exact HB.out | apply below_alloc | apply pw_below_drewN | apply below_drew1) | exact HB.out)))); have n4_ := Aside0.mk (Kd.C_below (by repeat (first | (with_reducible exact HR166_0.out) | (with_reducible refine Kd.C_alloc ?_ _) | (with_reducible refine Kd.C_drewN ?_ _) | (with_reducible refine Kd.C_drew ?_) | exact HR166_0.out)) hb); have n5_ := Aside0.mk (below_step (by repeat (first | (with_reducible first | exact HB.out | apply below_alloc | apply pw_below_drewN | apply below_drew1) | exact HB.out)) hb); clear HO_0; clear HO_7; clear HL166_0; clear HR166_0; clear HB; have HO_0 := n0_; have HO_7 := n1_; have HL166_0 := n2_; have HO169 := n3_; have HR166_0 := n4_; have HB := n5_; clear n0_ n1_ n2_ n3_ n4_ n5_; (try clear hb); (try clear hb2); (try clear hk); (try clear hi); (try clear ho0); obtain ⟨Ao57, co57, eo57⟩ := Kd.R_slice HO169.out; subst eo57))
                                      (try simp only [Act.put, List.setIfInBounds_toArray, List.set_cons_zero, List.set_cons_succ])
                                      go_cut [98] (fun v98 wc => ∃ (kq : Nat) (x98_53 : Bool), v98 = .bool x98_53 ∧ Aside0 (backreachref14_Spread.j4 kq l0 t150 x7_4 x10_4 x11_4 t167 x98_53 = some (r1, r2)) ∧ Aside0 (kq ≤ k4) ∧ Aside0 (Kd.V (Kd.slice 3 (Kd.int .i64)) 23 wc w.heap.size (fun k_ => ((P0_ k_ ∨ P1_ k_) ∨ w.heap.size ≤ k_) ∧ some k_ ≠ ((.slice Ao55 x7_4.length co55) : Value).ownBlock ∧ some k_ ≠ ((.slice Ao57 t167.length co57) : Value).ownBlock) (.slice (some ad166) l0.length c0) l0) ∧ Aside0 (Kd.R (Kd.int .i64) 3 wc w.heap.size (fun k_ => (w.heap.size ≤ k_) ∧ some k_ ≠ ((.slice Ao57 t167.length co57) : Value).ownBlock) (.slice Ao55 x7_4.length co55) x7_4) ∧ Aside0 (Kd.R (Kd.int .i64) 3 wc w.heap.size (fun k_ => (w.heap.size ≤ k_) ∧ some k_ ≠ ((.slice Ao55 x7_4.length co55) : Value).ownBlock) (.slice Ao57 t167.length co57) t167) ∧ Aside0 (Kd.C (Kd.int .i64) wc A166_0 (rd_L1 l0 x11_4).length (rd_L1 l0 x11_4)) ∧ Aside0 (Below w.heap.size w wc))
                                      case first =>
                                        have H := HC54.out
                                        clear HC54
                                        by_cases c58 : (t167.length : Int) = 1
                                        · rw [if_pos c58] at H
                                          have c58b0 : ((t167.length : Int) == 1) = true := beq_iff_eq.mpr c58
                                          have c58b1 : ((t167.length : Int) != 1) = false := bne_eq_false_iff_eq.mpr c58
                                          clear c58
                                          (first | rw [c58b0] | (simp only [i64_w, i32_w]; rw [c58b0]) | skip)
                                          by_cases c59 : 0 < (t167.length : Int)
                                          · rw [if_pos c59] at H
                                            have c59b0 : decide (0 < (t167.length : Int)) = true := decide_eq_true c59
                                            have c59b1 : decide (0 < t167.length) = true := decide_eq_true (by omega)
                                            clear c59
                                            replace H := Option.bind_eq_some_iff.mp H
                                            obtain ⟨t171, A600, H⟩ := H
                                            replace H : (if 0 ≤ t171 then (if t171 < (x7_4.length : Int) then (backreachref14_Spread.j4 k4 l0 t150 x7_4 x10_4 x11_4 t167 ((rd x7_4 t171) == 0)) else (none)) else (none)) = some (r1, r2) := H
                                            have A60 := Aside0.mk A600
                                            clear A600
                                            by_cases c61 : 0 ≤ t171
                                            · rw [if_pos c61] at H
                                              have c61b0 : decide (0 ≤ t171) = true := decide_eq_true c61
                                              clear c61
                                              by_cases c62 : t171 < (x7_4.length : Int)
                                              · rw [if_pos c62] at H
                                                have c62b0 : decide (t171 < (x7_4.length : Int)) = true := decide_eq_true c62
                                                clear c62
                                                have H' := Aside0.mk H
                                                clear H
                                                have p170 : 0 ≤ (0 : Int) := (by omega)
                                                have q170 : 0 < (t167.length : Int) := of_decide_eq_true (by first | (with_reducible assumption) | assumption)
                                                obtain ⟨ad170, e170, hx170_0⟩ := Kd.at_int (Kd.R_reads' HO169.out).2.2 0 p170 q170
                                                cases e170
                                                have qi170 : (0 < t167.length) = True := eq_true (by omega)
                                                (try rw [show ((0 : Int)).toNat = 0 from rfl] at hx170_0)
                                                (try rw [Addr.add_zero'] at hx170_0)
                                                replace p170 := eq_true p170
                                                replace q170 := eq_true q170
                                                go_wp2_with (first | (go_at_call 16; (with_reducible refine (backreachref14_Var.calls (rd t167 0) t171 _ A60.out).mono ?_); rintro e w' ⟨rfl, ⟨nd, rfl⟩⟩; have p172 : 0 ≤ (t171 : Int) := of_decide_eq_true (by first | (with_reducible assumption) | assumption); have q172 : t171 < (x7_4.length : Int) := of_decide_eq_true (by first | (with_reducible assumption) | assumption); obtain ⟨ad172, e172, hx172_0⟩ := Kd.at_int (Kd.R_reads' HO_7.out).2.2 t171 p172 q172; cases e172; replace p172 := eq_true p172; replace q172 := eq_true q172))
                                                go_meet
                                                case rel => exact ⟨_, (((rd x7_4 t171) == 0)), (by first | rfl | (simp; done) | (simp [*]; done)), H', ⟨by have := HJ2.out; have := HK2.out; have := HK3.out; have := HK4.out; first | omega | exact Nat.le_refl _⟩, ⟨by (with_reducible repeat (first | apply Kd.V_alloc | apply Kd.V_drewN | apply Kd.V_drew)); exact Kd.V_mono HO_0.out (fun _ hk => ⟨hk.1.1, ⟨hk.1.2, hk.2⟩⟩)⟩, ⟨by (with_reducible repeat (first | apply Kd.R_alloc | apply Kd.R_drewN | apply Kd.R_drew)); exact HO_7.out⟩, ⟨by (with_reducible repeat (first | apply Kd.R_alloc | apply Kd.R_drewN | apply Kd.R_drew)); exact Kd.R_mono HO169.out (fun _ hk => ⟨hk.1.1, hk.2⟩)⟩, ⟨by repeat (first | (with_reducible exact HR166_0.out) | (with_reducible refine Kd.C_alloc ?_ _) | (with_reducible refine Kd.C_drewN ?_ _) | (with_reducible refine Kd.C_drew ?_) | exact HR166_0.out)⟩, ⟨by repeat (first | (with_reducible first | exact HB.out | apply below_alloc | apply pw_below_drewN | apply below_drew1) | exact HB.out)⟩⟩
                                              · rw [if_neg c62] at H
                                                exact absurd H (by simp)
                                            · rw [if_neg c61] at H
                                              exact absurd H (by simp)
                                          · rw [if_neg c59] at H
                                            exact absurd H (by simp)
                                        · rw [if_neg c58] at H
                                          have c58b0 : ((t167.length : Int) == 1) = false := beq_eq_false_iff_ne.mpr c58
                                          have c58b1 : ((t167.length : Int) != 1) = true := bne_iff_ne.mpr c58
                                          (first | rw [c58b0] | (simp only [i64_w, i32_w]; rw [c58b0]) | skip)
                                          have H' := Aside0.mk H
                                          clear H
                                          go_wp2
                                          go_meet
                                          case rel => exact ⟨_, (false), (by first | rfl | (simp; done) | (simp [*]; done)), H', ⟨by have := HJ2.out; have := HK2.out; have := HK3.out; have := HK4.out; first | omega | exact Nat.le_refl _⟩, ⟨by (with_reducible repeat (first | apply Kd.V_alloc | apply Kd.V_drewN | apply Kd.V_drew)); exact Kd.V_mono HO_0.out (fun _ hk => ⟨hk.1.1, ⟨hk.1.2, hk.2⟩⟩)⟩, ⟨by (with_reducible repeat (first | apply Kd.R_alloc | apply Kd.R_drewN | apply Kd.R_drew)); exact HO_7.out⟩, ⟨by (with_reducible repeat (first | apply Kd.R_alloc | apply Kd.R_drewN | apply Kd.R_drew)); exact Kd.R_mono HO169.out (fun _ hk => ⟨hk.1.1, hk.2⟩)⟩, ⟨by repeat (first | (with_reducible exact HR166_0.out) | (with_reducible refine Kd.C_alloc ?_ _) | (with_reducible refine Kd.C_drewN ?_ _) | (with_reducible refine Kd.C_drew ?_) | exact HR166_0.out)⟩, ⟨by repeat (first | (with_reducible first | exact HB.out | apply below_alloc | apply pw_below_drewN | apply below_drew1) | exact HB.out)⟩⟩
                                      case rest =>
                                        clear HC54
                                        try clear c1
                                        try clear p1
                                        try clear q1
                                        try clear hx1
                                        try clear qi1
                                        try clear c2
                                        try clear p2
                                        try clear c3
                                        try clear p3
                                        try clear q3
                                        try clear hx3
                                        try clear hf3
                                        try clear c4
                                        try clear c5
                                        try clear c6
                                        try clear p6
                                        try clear p15
                                        try clear q15
                                        try clear hx15
                                        try clear c16
                                        try clear p16
                                        try clear q16
                                        try clear hx16
                                        try clear p17
                                        try clear q17
                                        try clear hx17
                                        try clear qi17
                                        try clear c24
                                        try clear c24b0
                                        try clear c25
                                        try clear c25b0
                                        try clear c27
                                        try clear c27b0
                                        try clear c28
                                        try clear c28b0
                                        try clear c29
                                        try clear c29b0
                                        try clear c29b1
                                        try clear p31
                                        try clear q31
                                        try clear hx31
                                        try clear hf31
                                        try clear c36
                                        try clear c37
                                        try clear c37b0
                                        try clear c37b1
                                        try clear p39
                                        try clear q39
                                        try clear hx39
                                        try clear hf39
                                        try clear c46
                                        try clear c47
                                        try clear c47b0
                                        try clear c48
                                        try clear c48b0
                                        try clear c50
                                        try clear c50b0
                                        try clear c50b1
                                        try clear c50b2
                                        try clear c58
                                        try clear c58b0
                                        try clear c58b1
                                        try clear c59
                                        try clear c59b0
                                        try clear c59b1
                                        try clear c61
                                        try clear c61b0
                                        try clear c62
                                        try clear c62b0
                                        try clear hx154_0
                                        try clear hx156_0
                                        try clear hx157_0
                                        try clear hx160_0
                                        try clear hx161_0
                                        try clear hx163_0
                                        try clear hx166_0
                                        try clear hx170_0
                                        try clear hx172_0
                                        try clear hx31_0
                                        try clear hx39_0
                                        try clear p1
                                        try clear p15
                                        try clear p154
                                        try clear p156
                                        try clear p157
                                        try clear p16
                                        try clear p160
                                        try clear p161
                                        try clear p163
                                        try clear p166
                                        try clear p170
                                        try clear p172
                                        try clear p2
                                        try clear p3
                                        try clear p31
                                        try clear p39
                                        try clear p6
                                        try clear q1
                                        try clear q15
                                        try clear q154
                                        try clear q156
                                        try clear q157
                                        try clear q16
                                        try clear q160
                                        try clear q161
                                        try clear q163
                                        try clear q166
                                        try clear q170
                                        try clear q172
                                        try clear q3
                                        try clear q31
                                        try clear q39
                                        obtain ⟨kq, x98_53, rfl, HA, HJ53, HO_0, HO_7, HO_12, HR166_0, HB⟩ := hcut
                                        cases kq with
                                        | zero => exact absurd HA.out (by simp [backreachref14_Spread.j4])
                                        | succ kj53 =>
                                          have H := HA.out
                                          clear HA
                                          simp only [backreachref14_Spread.j4] at H
                                          by_cases c63 : x98_53 = true
                                          · subst c63
                                            have H1 : (if 0 < (t167.length : Int) then ((backreachref14_Var.f (rd t167 0)).bind fun t174 => ((backreachref14_sign.f (rd t167 0)).bind fun t176 => (if 0 ≤ t174 then (if t174 < (x7_4.length : Int) then (backreachref14_Spread.l2 kj53 l0 t150 (x7_4.set (t174 : Int).toNat t176) true (wrap64 (x11_4 + 1))) else (none)) else (none)))) else (none)) = some (r1, r2) := by rw [if_pos rfl] at H; exact H
                                            clear H
                                            have H := H1
                                            clear H1
                                            by_cases c64 : 0 < (t167.length : Int)
                                            · rw [if_pos c64] at H
                                              have c64b0 : decide (0 < (t167.length : Int)) = true := decide_eq_true c64
                                              have c64b1 : decide (0 < t167.length) = true := decide_eq_true (by omega)
                                              clear c64
                                              replace H := Option.bind_eq_some_iff.mp H
                                              obtain ⟨t174, A650, H⟩ := H
                                              replace H : ((backreachref14_sign.f (rd t167 0)).bind fun t176 => (if 0 ≤ t174 then (if t174 < (x7_4.length : Int) then (backreachref14_Spread.l2 kj53 l0 t150 (x7_4.set (t174 : Int).toNat t176) true (wrap64 (x11_4 + 1))) else (none)) else (none))) = some (r1, r2) := H
                                              have A65 := Aside0.mk A650
                                              clear A650
                                              replace H := Option.bind_eq_some_iff.mp H
                                              obtain ⟨t176, A660, H⟩ := H
                                              replace H : (if 0 ≤ t174 then (if t174 < (x7_4.length : Int) then (backreachref14_Spread.l2 kj53 l0 t150 (x7_4.set (t174 : Int).toNat t176) true (wrap64 (x11_4 + 1))) else (none)) else (none)) = some (r1, r2) := H
                                              have A66 := Aside0.mk A660
                                              clear A660
                                              by_cases c67 : 0 ≤ t174
                                              · rw [if_pos c67] at H
                                                have c67b0 : decide (0 ≤ t174) = true := decide_eq_true c67
                                                clear c67
                                                by_cases c68 : t174 < (x7_4.length : Int)
                                                · rw [if_pos c68] at H
                                                  have c68b0 : decide (t174 < (x7_4.length : Int)) = true := decide_eq_true c68
                                                  clear c68
                                                  obtain ⟨y177, hy177⟩ : ∃ y_ : List Int, y_ = (x7_4.set (t174 : Int).toNat t176) := ⟨_, rfl⟩
                                                  replace H : (backreachref14_Spread.l2 kj53 l0 t150 y177 true (wrap64 (x11_4 + 1))) = some (r1, r2) := by first | (rw [hy177]; with_reducible exact H) | (have H2_ := (Option.bind_some _ _).symm.trans H; rw [hy177]; with_reducible exact H2_) | (have H2_ := (Option.bind_some _ _).symm.trans H; with_reducible exact H2_) | with_reducible exact H | (rw [hy177]; exact H) | exact H
                                                  have Ny177 := Aside0.mk hy177
                                                  clear hy177
                                                  have H' := Aside0.mk H
                                                  clear H
                                                  try go_wp2
                                                  have n0_ := Aside0.mk (Kd.V_drew HO_0.out)
                                                  have n1_ := Aside0.mk (Kd.R_drew HO_7.out)
                                                  have n2_ := Aside0.mk (Kd.R_drew HO_12.out)
                                                  have n3_ := Aside0.mk (Kd.C_drew HR166_0.out)
                                                  have n4_ := Aside0.mk (below_drew1 HB.out)
                                                  clear HO_0
                                                  clear HO_7
                                                  clear HO_12
                                                  clear HR166_0
                                                  clear HB
                                                  have HO_0 := n0_
                                                  have HO_7 := n1_
                                                  have HO_12 := n2_
                                                  have HR166_0 := n3_
                                                  have HB := n4_
                                                  clear n0_ n1_ n2_ n3_ n4_
                                                  have p173 : 0 ≤ (0 : Int) := (by omega)
                                                  have q173 : 0 < (t167.length : Int) := of_decide_eq_true (by first | (with_reducible assumption) | assumption)
                                                  obtain ⟨ad173, e173, hx173_0⟩ := Kd.at_int (Kd.R_reads' HO_12.out).2.2 0 p173 q173
                                                  cases e173
                                                  have qi173 : (0 < t167.length) = True := eq_true (by omega)
                                                  (try rw [show ((0 : Int)).toNat = 0 from rfl] at hx173_0)
                                                  (try rw [Addr.add_zero'] at hx173_0)
                                                  replace p173 := eq_true p173
                                                  replace q173 := eq_true q173
                                                  have p175 : 0 ≤ (0 : Int) := (by omega)
                                                  have q175 : 0 < (t167.length : Int) := of_decide_eq_true (by first | (with_reducible assumption) | assumption)
                                                  obtain ⟨ad175, e175, hx175_0⟩ := Kd.at_int (Kd.R_reads' HO_12.out).2.2 0 p175 q175
                                                  obtain rfl : ad173 = ad175 := (by injection e175)
                                                  have qi175 : (0 < t167.length) = True := eq_true (by omega)
                                                  (try rw [show ((0 : Int)).toNat = 0 from rfl] at hx175_0)
                                                  (try rw [Addr.add_zero'] at hx175_0)
                                                  replace p175 := eq_true p175
                                                  replace q175 := eq_true q175
                                                  refine start_ (n := 11) (S := fun w' => w'.cell? ad173 = some (.int .i64 (rd t167 0)) ∧ w'.cell? ad173 = some (.int .i64 (rd t167 0))) (ds := [10]) #[false, false, false, false, false, false, false, false, false, false, false] (by kernel_rfl) rfl rfl ⟨hx173_0, hx175_0⟩ (fun hHeld => ?_); refine with_tabW backreachref14_Spread.tab22 backreachref14_Spread.bits22 (fun HT_ HW_ => ?_)
                                                  generalize wc.drew = w70 at HO_0 HO_7 HO_12 HR166_0 HB hx173_0 hx175_0 hHeld ⊢
                                                  refine pure_ (i := 0) (N := some 99) (v := ?_) (a' := ?_) #[true, false, false, false, false, false, false, false, false, false, false] rfl rfl (any_of HT_.out (by kernel_rfl)) (fun _ _ _ h => h) (Or.inl ⟨by rfl, ?_⟩) ?_ ?_
                                                  rotate_left
                                                  · intro w'
                                                    go_simp
                                                    with_reducible rfl
                                                  rotate_left
                                                  · simp only [Act.put, List.setIfInBounds_toArray, List.set_cons_zero, List.set_cons_succ, i64_w, i32_w]
                                                    rfl
                                                  refine pure_ (i := 1) (N := some 100) (v := ?_) (a' := ?_) #[true, true, false, false, false, false, false, false, false, false, false] rfl rfl (any_of HT_.out (by kernel_rfl)) (fun _ _ _ h => h) (Or.inl ⟨by rfl, ?_⟩) ?_ ?_
                                                  rotate_left
                                                  · intro w'
                                                    go_simp
                                                    with_reducible rfl
                                                  rotate_left
                                                  · simp only [Act.put, List.setIfInBounds_toArray, List.set_cons_zero, List.set_cons_succ, i64_w, i32_w]
                                                    rfl
                                                  refine pure_ (i := 2) (N := some 101) (v := ?_) (a' := ?_) #[true, true, true, false, false, false, false, false, false, false, false] rfl rfl (any_of HT_.out (by kernel_rfl)) (fun _ _ _ h => h) (Or.inl ⟨by rfl, ?_⟩) ?_ ?_
                                                  rotate_left
                                                  · intro w'
                                                    go_simp
                                                    with_reducible rfl
                                                  rotate_left
                                                  · simp only [Act.put, List.setIfInBounds_toArray, List.set_cons_zero, List.set_cons_succ, i64_w, i32_w]
                                                    rfl
                                                  refine pure_ (i := 5) (N := some 104) (v := ?_) (a' := ?_) #[true, true, true, false, false, true, false, false, false, false, false] rfl rfl (any_of HT_.out (by kernel_rfl)) (fun _ _ _ h => h) (Or.inl ⟨by rfl, ?_⟩) ?_ ?_
                                                  rotate_left
                                                  · intro w'
                                                    go_simp
                                                    with_reducible rfl
                                                  rotate_left
                                                  · simp only [Act.put, List.setIfInBounds_toArray, List.set_cons_zero, List.set_cons_succ, i64_w, i32_w]
                                                    rfl
                                                  refine pure_ (i := 6) (N := some 105) (v := ?_) (a' := ?_) #[true, true, true, false, false, true, true, false, false, false, false] rfl rfl (any_of HT_.out (by kernel_rfl)) (fun _ _ _ h => h) (Or.inl ⟨by rfl, ?_⟩) ?_ ?_
                                                  rotate_left
                                                  · intro w'
                                                    go_simp
                                                    with_reducible rfl
                                                  rotate_left
                                                  · simp only [Act.put, List.setIfInBounds_toArray, List.set_cons_zero, List.set_cons_succ, i64_w, i32_w]
                                                    rfl
                                                  refine take_ (i := 3) (N := some 102) (v := ?_) (a' := ?_) #[true, true, true, true, false, true, true, false, false, false, false] rfl rfl (take_ofW HT_.out HW_.out (by kernel_rfl)) (fun _ _ _ h => h) (Or.inl ⟨by rfl, ?_⟩) hHeld ?_ ?_
                                                  rotate_left
                                                  · rintro w' ⟨s0, s1⟩
                                                    go_simp
                                                    with_reducible rfl
                                                  rotate_left
                                                  · simp only [Act.put, List.setIfInBounds_toArray, List.set_cons_zero, List.set_cons_succ, i64_w, i32_w]
                                                    rfl
                                                  refine take_ (i := 7) (N := some 106) (v := ?_) (a' := ?_) #[true, true, true, true, false, true, true, true, false, false, false] rfl rfl (take_ofW HT_.out HW_.out (by kernel_rfl)) (fun _ _ _ h => h) (Or.inl ⟨by rfl, ?_⟩) hHeld ?_ ?_
                                                  rotate_left
                                                  · rintro w' ⟨s0, s1⟩
                                                    go_simp
                                                    with_reducible rfl
                                                  rotate_left
                                                  · simp only [Act.put, List.setIfInBounds_toArray, List.set_cons_zero, List.set_cons_succ, i64_w, i32_w]
                                                    rfl
                                                  refine one_ (i := 4) (N := some 103) #[true, true, true, true, true, true, true, true, false, false, false] rfl rfl (one_of HT_.out (by kernel_rfl)) (by decide) (fun K hK => ?_)
                                                  refine goes_ Tryd.func16 (by kernel_rfl) rfl #[.int .i64 (rd t167 0)] (by rfl) rfl rfl (by (try simp only [List.map_toArray, List.map_cons, List.map_nil]); first | done | rfl | (simp only [List.length_drop, List.length_take]; rfl)) ?_
                                                  with_reducible refine (backreachref14_Var.calls (rd t167 0) t174 _ A65.out).mono ?_
                                                  rintro e w' ⟨rfl, ⟨nd, rfl⟩⟩
                                                  refine ⟨_, rfl, ?_⟩
                                                  refine hK.out _ _ ⟨hHeld.1, hHeld.2⟩ (fun hHeld => ?_)
                                                  clear hK K
                                                  refine norm_ (a' := ?_) ?_ ?_
                                                  rotate_left
                                                  · show Act.put _ (some 103) _ = _
                                                    simp only [Act.put, List.setIfInBounds_toArray, List.set_cons_zero, List.set_cons_succ, i64_w, i32_w]
                                                    rfl
                                                  refine one_ (i := 8) (N := some 107) #[true, true, true, true, true, true, true, true, true, false, false] rfl rfl (one_of HT_.out (by kernel_rfl)) (by decide) (fun K hK => ?_)
                                                  refine goes_ Tryd.func36 (by kernel_rfl) rfl #[.int .i64 (rd t167 0)] (by rfl) rfl rfl (by (try simp only [List.map_toArray, List.map_cons, List.map_nil]); first | done | rfl | (simp only [List.length_drop, List.length_take]; rfl)) ?_
                                                  with_reducible refine (backreachref14_sign.calls (rd t167 0) t176 _ A66.out).mono ?_
                                                  rintro e w' ⟨rfl, ⟨nd, rfl⟩⟩
                                                  refine ⟨_, rfl, ?_⟩
                                                  have p69 : 0 ≤ (t174 : Int) := of_decide_eq_true (by first | (with_reducible assumption) | assumption)
                                                  have q69 : (t174 : Int) < ((x7_4.length : Int) : Int) := of_decide_eq_true (by first | (with_reducible assumption) | assumption)
                                                  obtain ⟨go69, co69, eo69, gb69, gl69, cl69, HG69⟩ := Kd.R_form HO_7.out (by omega)
                                                  (first | cases eo69 | (injection eo69 with ea_ en_ ec_; (first | subst ea_ | (injection ea_ with ea_; subst ea_)); subst ec_; clear en_))
                                                  have GB69 := Aside0.mk gb69
                                                  have GG69 := Aside0.mk HG69
                                                  clear gb69 gl69 HG69
                                                  obtain ⟨hx69_0, hf69_0⟩ := Kd.R_celln 0 HO_7.out (t174 : Int) p69 q69
                                                  replace p69 := eq_true p69
                                                  replace q69 := eq_true q69
                                                  have HP71 := Kd.R_putn HO_7.out (t174 : Int) t176
                                                  rw [← Ny177.out] at HP71
                                                  have HQ71 := Aside0.mk HP71
                                                  clear HP71
                                                  refine hK.out _ _ ⟨hHeld.1, hHeld.2⟩ (fun hHeld => ?_)
                                                  clear hK K
                                                  refine norm_ (a' := ?_) ?_ ?_
                                                  rotate_left
                                                  · show Act.put _ (some 107) _ = _
                                                    simp only [Act.put, List.setIfInBounds_toArray, List.set_cons_zero, List.set_cons_succ, i64_w, i32_w]
                                                    rfl
                                                  refine pure_ (i := 9) (N := some 108) (v := ?_) (a' := ?_) #[true, true, true, true, true, true, true, true, true, true, false] rfl rfl (any_of HT_.out (by kernel_rfl)) (fun _ _ _ h => h) (Or.inl ⟨by rfl, ?_⟩) ?_ ?_
                                                  rotate_left
                                                  · intro w'
                                                    go_simp
                                                    with_reducible rfl
                                                  rotate_left
                                                  · simp only [Act.put, List.setIfInBounds_toArray, List.set_cons_zero, List.set_cons_succ, i64_w, i32_w]
                                                    rfl
                                                  refine last_ (i := 10) (N := none) #[true, true, true, true, true, true, true, true, true, true, true] rfl rfl (one_of HT_.out (by kernel_rfl)) (by decide) (fun K hK => ?_)
                                                  refine skip_ (w1 := ?_) (by rfl) rfl ?_ ?_
                                                  rotate_left
                                                  · go_simp
                                                    rfl
                                                  refine hK.out _ _ ?_
                                                  clear hK K
                                                  refine done_ (done_of HT_.out (by kernel_rfl)) ?_
                                                  try go_wp2
                                                  go_roundg kj53
                                                  case measure => have := HJ2.out; have := HK2.out; have := HK3.out; have := HK4.out; have := HJ53.out; omega
                                                  case rel => exact ⟨(y177), (true), (wrap64 (x11_4 + 1)), (by first | rfl | (simp; done) | (simp [*]; done)), (by first | rfl | (simp; done) | (simp [*]; done)), H', ⟨by have := HJ2.out; have := HK2.out; have := HK3.out; have := HK4.out; have := HJ53.out; omega⟩, ⟨by (with_reducible repeat (first | apply Kd.V_alloc | apply Kd.V_drewN | apply Kd.V_drew)); exact Kd.V_mono (Kd.V_far (p := ⟨go69, (t174 : Int).toNat, none⟩) (Kd.V_mono HO_0.out (fun k_ hk => (⟨hk, fun e_ => hk.2.1 (by rw [e_]; rfl)⟩ : _ ∧ k_ ≠ go69))) (fun _ hk => hk.2) (.int .i64 t176)) (fun _ hk => ⟨hk.1.1, hk.1.2.1⟩)⟩, ⟨by (with_reducible repeat (first | apply Kd.R_alloc | apply Kd.R_drewN | apply Kd.R_drew)); exact Kd.R_mono HQ71.out (fun _ hk => hk.1)⟩, ⟨by repeat (first | (with_reducible first | exact HB.out | apply below_alloc | apply pw_below_drewN | apply below_drew1 | refine below_set ?_ GB69.out) | exact HB.out)⟩⟩
                                                · rw [if_neg c68] at H
                                                  exact absurd H (by simp)
                                              · rw [if_neg c67] at H
                                                exact absurd H (by simp)
                                            · rw [if_neg c64] at H
                                              exact absurd H (by simp)
                                          · replace c63 := Bool.eq_false_iff.mpr c63
                                            subst c63
                                            have H1 : (backreachref14_Spread.l2 kj53 l0 t150 x7_4 x10_4 (wrap64 (x11_4 + 1))) = some (r1, r2) := by rw [if_neg (show ¬ (false = true) by decide)] at H; exact H
                                            clear H
                                            have H := H1
                                            clear H1
                                            have H' := Aside0.mk H
                                            clear H
                                            go_wp2
                                            go_roundg kj53
                                            case measure => have := HJ2.out; have := HK2.out; have := HK3.out; have := HK4.out; have := HJ53.out; omega
                                            case rel => exact ⟨(x7_4), (x10_4), (wrap64 (x11_4 + 1)), (by first | rfl | (simp; done) | (simp [*]; done)), (by first | rfl | (simp; done) | (simp [*]; done)), H', ⟨by have := HJ2.out; have := HK2.out; have := HK3.out; have := HK4.out; have := HJ53.out; omega⟩, ⟨by (with_reducible repeat (first | apply Kd.V_alloc | apply Kd.V_drewN | apply Kd.V_drew)); exact Kd.V_mono HO_0.out (fun _ hk => ⟨hk.1, hk.2.1⟩)⟩, ⟨by (with_reducible repeat (first | apply Kd.R_alloc | apply Kd.R_drewN | apply Kd.R_drew)); exact Kd.R_mono HO_7.out (fun _ hk => hk.1)⟩, ⟨by repeat (first | (with_reducible first | exact HB.out | apply below_alloc | apply pw_below_drewN | apply below_drew1) | exact HB.out)⟩⟩
                                  · rw [if_neg c48] at H
                                    exact absurd H (by simp)
                                · rw [if_neg c47] at H
                                  have c47b0 : decide (x11_4 < (l0.length : Int)) = false := decide_eq_false c47
                                  clear c47
                                  have H' := Aside0.mk H
                                  clear H
                                  go_wp2
                                  go_roundg k4
                                  case measure => have := HJ2.out; have := HK2.out; have := HK3.out; have := HK4.out; omega
                                  case rel => exact ⟨(x7_4), (x10_4), (by first | rfl | (simp; done) | (simp [*]; done)), H', ⟨by have := HJ2.out; have := HK2.out; have := HK3.out; have := HK4.out; omega⟩, ⟨by (with_reducible repeat (first | apply Kd.V_alloc | apply Kd.V_drewN | apply Kd.V_drew)); exact HO_0.out⟩, ⟨by (with_reducible repeat (first | apply Kd.R_alloc | apply Kd.R_drewN | apply Kd.R_drew)); exact HO_7.out⟩, ⟨by repeat (first | (with_reducible first | exact HB.out | apply below_alloc | apply pw_below_drewN | apply below_drew1) | exact HB.out)⟩⟩
                          · replace c46 := Bool.eq_false_iff.mpr c46
                            subst c46
                            have H1 : (backreachref14_Spread.l3 k3 t150 x7_3 ([] : List Int) 1) = some (r1, r2) := by rw [if_neg (show ¬ (false = true) by decide)] at H; exact H
                            clear H
                            have H := H1
                            clear H1
                            have H' := Aside0.mk H
                            clear H
                            go_wp2
                            go_loopg [13, 14] k3 (fun kq v13 v14 w' => ∃ (x13_4 : List Int) (x14_4 : Int), v14 = .int .i64 x14_4 ∧ Aside0 (backreachref14_Spread.l3 kq t150 x7_3 x13_4 x14_4 = some (r1, r2)) ∧ Aside0 (kq ≤ k3) ∧ Aside0 (Kd.R (Kd.int .i64) 3 w' w.heap.size (fun k_ => (w.heap.size ≤ k_) ∧ some k_ ≠ (v13 : Value).ownBlock) v152 x7_3) ∧ Aside0 (Kd.R (Kd.int .i64) 3 w' w.heap.size (fun k_ => (w.heap.size ≤ k_) ∧ some k_ ≠ (v152 : Value).ownBlock) v13 x13_4) ∧ Aside0 (Below w.heap.size w w'))
                            case atStart => exact ⟨(([] : List Int)), (1), (by first | rfl | (simp; done) | (simp [*]; done)), H', ⟨Nat.le_refl _⟩, ⟨by (with_reducible repeat (first | apply Kd.R_alloc | apply Kd.R_drewN | apply Kd.R_drew)); exact Kd.R_mono HO_7.out (fun _ hk => ⟨hk, (by simp [Value.ownBlock])⟩)⟩, ⟨by first | exact Kd.R_nil _ _ _ _ _ | exact Kd.N_nil _ _ _ _ _ | exact Kd.V_nil _ _ _ _ _ | exact Kd.Q_nil _ _ _ _ _ | exact Kd.S_nil _ _ _ _ _⟩, ⟨by repeat (first | (with_reducible first | exact HB.out | apply below_alloc | apply pw_below_drewN | apply below_drew1) | exact HB.out)⟩⟩
                            case round =>
                              clear H'
                              try clear c1
                              try clear p1
                              try clear q1
                              try clear hx1
                              try clear qi1
                              try clear c2
                              try clear p2
                              try clear c3
                              try clear p3
                              try clear q3
                              try clear hx3
                              try clear hf3
                              try clear c4
                              try clear c5
                              try clear c6
                              try clear p6
                              try clear q6
                              try clear hx6
                              try clear hf6
                              try clear p15
                              try clear q15
                              try clear hx15
                              try clear c16
                              try clear p16
                              try clear q16
                              try clear hx16
                              try clear p17
                              try clear q17
                              try clear hx17
                              try clear qi17
                              try clear c24
                              try clear c24b0
                              try clear c25
                              try clear c25b0
                              try clear c27
                              try clear c27b0
                              try clear c28
                              try clear c28b0
                              try clear c29
                              try clear c29b0
                              try clear c29b1
                              try clear p31
                              try clear q31
                              try clear hx31
                              try clear hf31
                              try clear c36
                              try clear c37
                              try clear c37b0
                              try clear c37b1
                              try clear p39
                              try clear q39
                              try clear hx39
                              try clear hf39
                              try clear c46
                              try clear c47
                              try clear c47b0
                              try clear c48
                              try clear c48b0
                              try clear c50
                              try clear c50b0
                              try clear c50b1
                              try clear c50b2
                              try clear c58
                              try clear c58b0
                              try clear c58b1
                              try clear c59
                              try clear c59b0
                              try clear c59b1
                              try clear c61
                              try clear c61b0
                              try clear c62
                              try clear c62b0
                              try clear c63
                              try clear c64
                              try clear c64b0
                              try clear c64b1
                              try clear p64
                              try clear c67
                              try clear c67b0
                              try clear c68
                              try clear c68b0
                              try clear p69
                              try clear q69
                              try clear hx69
                              try clear hf69
                              try clear hx154_0
                              try clear hx156_0
                              try clear hx157_0
                              try clear hx160_0
                              try clear hx161_0
                              try clear hx163_0
                              try clear hx166_0
                              try clear hx170_0
                              try clear hx172_0
                              try clear hx173_0
                              try clear hx175_0
                              try clear hx31_0
                              try clear hx39_0
                              try clear hx69_0
                              try clear p1
                              try clear p15
                              try clear p154
                              try clear p156
                              try clear p157
                              try clear p16
                              try clear p160
                              try clear p161
                              try clear p163
                              try clear p166
                              try clear p17
                              try clear p170
                              try clear p172
                              try clear p173
                              try clear p175
                              try clear p2
                              try clear p3
                              try clear p31
                              try clear p39
                              try clear p6
                              try clear p69
                              try clear q1
                              try clear q15
                              try clear q154
                              try clear q156
                              try clear q157
                              try clear q16
                              try clear q160
                              try clear q161
                              try clear q163
                              try clear q166
                              try clear q17
                              try clear q170
                              try clear q172
                              try clear q173
                              try clear q175
                              try clear q3
                              try clear q31
                              try clear q39
                              try clear q69
                              obtain ⟨x13_4, x14_4, rfl, HA, HK4, HO_7, HO_13, HB⟩ := hrel
                              cases gk with
                              | zero => exact absurd HA.out (by simp [backreachref14_Spread.l3])
                              | succ k4 =>
                                have H := HA.out
                                clear HA
                                simp only [backreachref14_Spread.l3] at H
                                by_cases c72 : x14_4 ≤ t150
                                · rw [if_pos c72] at H
                                  have c72b0 : decide (x14_4 ≤ t150) = true := decide_eq_true c72
                                  clear c72
                                  by_cases c73 : 0 ≤ x14_4
                                  · rw [if_pos c73] at H
                                    have c73b0 : decide (0 ≤ x14_4) = true := decide_eq_true c73
                                    clear c73
                                    by_cases c74 : x14_4 < (x7_3.length : Int)
                                    · rw [if_pos c74] at H
                                      have c74b0 : decide (x14_4 < (x7_3.length : Int)) = true := decide_eq_true c74
                                      clear c74
                                      by_cases c75 : (rd x7_3 x14_4) = 0
                                      · rw [if_pos c75] at H
                                        have c75b0 : ((rd x7_3 x14_4) == 0) = true := beq_iff_eq.mpr c75
                                        have c75b1 : ((rd x7_3 x14_4) != 0) = false := bne_eq_false_iff_eq.mpr c75
                                        clear c75
                                        have H' := Aside0.mk H
                                        clear H
                                        obtain ⟨Ao76, co76, eo76⟩ := Kd.R_slice HO_7.out
                                        subst eo76
                                        have p178 : 0 ≤ (x14_4 : Int) := of_decide_eq_true (by first | (with_reducible assumption) | assumption)
                                        have q178 : x14_4 < (x7_3.length : Int) := of_decide_eq_true (by first | (with_reducible assumption) | assumption)
                                        obtain ⟨ad178, e178, hx178_0⟩ := Kd.at_int (Kd.R_reads' HO_7.out).2.2 x14_4 p178 q178
                                        cases e178
                                        replace p178 := eq_true p178
                                        replace q178 := eq_true q178
                                        go_wp2
                                        go_roundg k4
                                        case measure => have := HJ2.out; have := HK2.out; have := HK3.out; have := HK4.out; omega
                                        case rel => exact ⟨(x13_4), (wrap64 (x14_4 + 1)), (by first | rfl | (simp; done) | (simp [*]; done)), H', ⟨by have := HJ2.out; have := HK2.out; have := HK3.out; have := HK4.out; omega⟩, ⟨by (with_reducible repeat (first | apply Kd.R_alloc | apply Kd.R_drewN | apply Kd.R_drew)); exact HO_7.out⟩, ⟨by (with_reducible repeat (first | apply Kd.R_alloc | apply Kd.R_drewN | apply Kd.R_drew)); exact HO_13.out⟩, ⟨by repeat (first | (with_reducible first | exact HB.out | apply below_alloc | apply pw_below_drewN | apply below_drew1) | exact HB.out)⟩⟩
                                      · rw [if_neg c75] at H
                                        have c75b0 : ((rd x7_3 x14_4) == 0) = false := beq_eq_false_iff_ne.mpr c75
                                        have c75b1 : ((rd x7_3 x14_4) != 0) = true := bne_iff_ne.mpr c75
                                        by_cases c77 : x13_4.length < 17592186044416
                                        · rw [if_pos c77] at H
                                          have LMc77 := Aside0.mk c77
                                          clear c77
                                          obtain ⟨y180, hy180⟩ : ∃ y_ : List Int, y_ = (x13_4 ++ [wrap64 ((rd x7_3 x14_4) * x14_4)]) := ⟨_, rfl⟩
                                          replace H : (backreachref14_Spread.l3 k4 t150 x7_3 y180 (wrap64 (x14_4 + 1))) = some (r1, r2) := by first | (rw [hy180]; with_reducible exact H) | (have H2_ := (Option.bind_some _ _).symm.trans H; rw [hy180]; with_reducible exact H2_) | (have H2_ := (Option.bind_some _ _).symm.trans H; with_reducible exact H2_) | with_reducible exact H | (rw [hy180]; exact H) | exact H
                                          have Ny180 := Aside0.mk hy180
                                          clear hy180
                                          have H' := Aside0.mk H
                                          clear H
                                          obtain ⟨Ao78, co78, eo78⟩ := Kd.R_slice HO_7.out
                                          subst eo78
                                          have p178 : 0 ≤ (x14_4 : Int) := of_decide_eq_true (by first | (with_reducible assumption) | assumption)
                                          have q178 : x14_4 < (x7_3.length : Int) := of_decide_eq_true (by first | (with_reducible assumption) | assumption)
                                          obtain ⟨ad178, e178, hx178_0⟩ := Kd.at_int (Kd.R_reads' HO_7.out).2.2 x14_4 p178 q178
                                          cases e178
                                          replace p178 := eq_true p178
                                          replace q178 := eq_true q178
                                          have p179 : 0 ≤ (x14_4 : Int) := of_decide_eq_true (by first | (with_reducible assumption) | assumption)
                                          have q179 : x14_4 < (x7_3.length : Int) := of_decide_eq_true (by first | (with_reducible assumption) | assumption)
                                          obtain ⟨ad179, e179, hx179_0⟩ := Kd.at_int (Kd.R_reads' HO_7.out).2.2 x14_4 p179 q179
                                          obtain rfl : ad178 = ad179 := (by injection e179)
                                          replace p179 := eq_true p179
                                          replace q179 := eq_true q179
                                          go_wp2_with (first | ((with_reducible refine gate_builtin (b := .append) (xs := #[.tmp 119, .tmp 126]) rfl ?_); (try (refine gate_guard (by rfl) ?_; dsimp only)); at_builtin; refine Kd.R_append (Kd.int .i64) (w0 := w) w.heap.size rfl (.tmp 119) (.tmp 126) 23 3 (.int .i64 0) 8 rfl Tryd.underlying23 info3 rfl (by decide) (by omega) u13 x13_4 (wrap64 ((rd x7_3 x14_4) * x14_4)) [.int .i64 (wrap64 ((rd x7_3 x14_4) * x14_4))] (fun k_ => (w.heap.size ≤ k_) ∧ some k_ ≠ (.slice (some ad178) x7_3.length co78 : Value).ownBlock) (fun _ => False) rfl rfl ?aP (fun _ hk => hk.elim) ?aF ?aO ?aB ?aS ?aL ?_; (case aP => exact rfl); (case aB => exact (by repeat (first | (with_reducible first | exact HB.out | apply below_alloc | apply pw_below_drewN | apply below_drew1) | exact HB.out))); (case aF => exact (fun k_ hk => ⟨(Nat.le_trans (below_size (by repeat (first | (with_reducible first | exact HB.out | apply below_alloc | apply pw_below_drewN | apply below_drew1) | exact HB.out))) hk), Kd.fresh' (Kd.R_lt (by (with_reducible repeat (first | apply Kd.R_alloc | apply Kd.R_drewN | apply Kd.R_drew)); exact HO_7.out)) k_ hk⟩)); (case aO => exact (by (with_reducible repeat (first | apply Kd.R_alloc | apply Kd.R_drewN | apply Kd.R_drew)); exact HO_13.out)); (case aS => exact (below_size (by repeat (first | (with_reducible first | exact HB.out | apply below_alloc | apply pw_below_drewN | apply below_drew1) | exact HB.out)))); (case aL => have := LMc77.out; omega); intro v181 w79 ho hb hg hat; rw [← Ny180.out] at ho; have n0_ := Aside0.mk (Kd.R_after (ok := (fun k_ => (w.heap.size ≤ k_))) (by (with_reducible repeat (first | apply Kd.R_alloc | apply Kd.R_drewN | apply Kd.R_drew)); exact HO_7.out) hg hat); have n1_ := Aside0.mk (hb); have n2_ := Aside0.mk (ho); clear HO_7; clear HB; clear HO_13; have HO_7 := n0_; have HB := n1_; have HO182 := n2_; clear n0_ n1_ n2_; clear ho hb hg hat))
                                          go_roundg k4
                                          case measure => have := HJ2.out; have := HK2.out; have := HK3.out; have := HK4.out; omega
                                          case rel => exact ⟨(y180), (wrap64 (x14_4 + 1)), (by first | rfl | (simp; done) | (simp [*]; done)), H', ⟨by have := HJ2.out; have := HK2.out; have := HK3.out; have := HK4.out; omega⟩, ⟨by (with_reducible repeat (first | apply Kd.R_alloc | apply Kd.R_drewN | apply Kd.R_drew)); exact HO_7.out⟩, ⟨by (with_reducible repeat (first | apply Kd.R_alloc | apply Kd.R_drewN | apply Kd.R_drew)); exact HO182.out⟩, ⟨by repeat (first | (with_reducible first | exact HB.out | apply below_alloc | apply pw_below_drewN | apply below_drew1) | exact HB.out)⟩⟩
                                        · rw [if_neg c77] at H
                                          exact absurd H (by simp)
                                    · rw [if_neg c74] at H
                                      exact absurd H (by simp)
                                  · rw [if_neg c73] at H
                                    exact absurd H (by simp)
                                · rw [if_neg c72] at H
                                  have c72b0 : decide (x14_4 ≤ t150) = false := decide_eq_false c72
                                  clear c72
                                  simp only [Option.some.injEq, Prod.mk.injEq] at H
                                  obtain ⟨rfl, rfl⟩ := H
                                  go_wp2
                                  go_ret2
                                  exact ⟨_, by first | rfl | (simp [errW_none, errW_some] <;> rfl) | (simp only [← hji14]; first | rfl | (simp [errW_none, errW_some] <;> rfl)) | (simp [*, errW_none, errW_some] <;> rfl), by (with_reducible repeat (first | apply Kd.R_alloc | apply Kd.R_drewN | apply Kd.R_drew)); exact Kd.R_mono HO_13.out (fun _ hk => hk.1), by repeat (first | (with_reducible first | exact HB.out | apply below_alloc | apply pw_below_drewN | apply below_drew1) | exact HB.out)⟩
              · rw [if_neg c16] at H
                exact absurd H (by simp)
            · rw [if_neg c15] at H
              exact absurd H (by simp)
          · rw [if_neg c12] at H
            exact absurd H (by simp)
        · rw [if_neg c11] at H
          exact absurd H (by simp)
end Go.Proofs.YtnknoaolbjofiaaDoor.X
end
section
namespace Go.Proofs.YtnknoaolbjofiaaDoor.X
open Go.RowKit Go.Proofs.YtnknoaolbjofiaaDoorW.PrintWords Go.Proofs.YtnknoaolbjofiaaDoorW.PrintLast Go.Proofs.YtnknoaolbjofiaaDoorW.PrintMore
attribute [local go_sem] max2_int min2_int max_two min_two max_three min_three max_four min_four
set_option linter.unusedVariables false
set_option linter.unusedSimpArgs false
def clause_literal.f (a0 : Int) : Option (Bool) := if a0 = 0 then (some false) else (if a0 ≥ (-1048576) then (some (decide (a0 ≤ 1048576))) else (some false))
set_option maxHeartbeats 8000000 in
set_option maxRecDepth 100000 in
theorem clause_literal.calls (a0 : Int) (r : Bool) (w : World) (h : clause_literal.f a0 = some r) :
    Calls Tryd.prog 38 #[.int .i64 a0] w fun e w' => e = .returned (.bool r) ∧ Drawn0 w w' := by
  have H : (if a0 = 0 then (some false) else (if a0 ≥ (-1048576) then (some (decide (a0 ≤ 1048576))) else (some false))) = some r := h
  clear h
  by_cases c2 : a0 = 0
  · rw [if_pos c2] at H
    have c2b0 : (a0 == 0) = true := beq_iff_eq.mpr c2
    have c2b1 : (a0 != 0) = false := bne_eq_false_iff_eq.mpr c2
    clear c2
    obtain rfl := Option.some.inj H
    go_enter Tryd.func38, Tryd.ntmps38
    go_wp2
    go_ret
    exact ⟨by first | rfl | (simp; done) | (simp [*]; done), by repeat (first | exact Drawn0.refl _ | apply Drawn0.step)⟩
  · rw [if_neg c2] at H
    have c2b0 : (a0 == 0) = false := beq_eq_false_iff_ne.mpr c2
    have c2b1 : (a0 != 0) = true := bne_iff_ne.mpr c2
    by_cases c3 : a0 ≥ (-1048576)
    · rw [if_pos c3] at H
      have c3b0 : decide ((-1048576) ≤ a0) = true := decide_eq_true c3
      clear c3
      obtain rfl := Option.some.inj H
      go_enter Tryd.func38, Tryd.ntmps38
      go_wp2
      go_ret
      exact ⟨by first | rfl | (simp; done) | (simp [*]; done), by repeat (first | exact Drawn0.refl _ | apply Drawn0.step)⟩
    · rw [if_neg c3] at H
      have c3b0 : decide ((-1048576) ≤ a0) = false := decide_eq_false c3
      clear c3
      obtain rfl := Option.some.inj H
      go_enter Tryd.func38, Tryd.ntmps38
      go_wp2
      go_ret
      exact ⟨by first | rfl | (simp; done) | (simp [*]; done), by repeat (first | exact Drawn0.refl _ | apply Drawn0.step)⟩
mutual
def clause_Right.l0 : Nat → List (List Int) → Int → Int → Option (Int)
  | 0, _, _, _ => none
  | k + 1, x7, x8, x9 => if x9 < x8 then (if 0 ≤ x9 then (if x9 < (x7.length : Int) then (clause_Right.l1 k x7 x8 x9 (rd_L1 x7 x9) ((rd_L1 x7 x9).length : Int) 0) else (none)) else (none)) else (some 0)
def clause_Right.l1 : Nat → List (List Int) → Int → Int → List Int → Int → Int → Option (Int)
  | 0, _, _, _, _, _, _ => none
  | k + 1, x7, x8, x9, x13, x14, x15 => if x15 < x14 then (if 0 ≤ x15 then (if x15 < (x13.length : Int) then ((clause_literal.f (rd x13 x15)).bind fun t103 => (if t103 = true then (clause_Right.l1 k x7 x8 x9 x13 x14 (wrap64 (x15 + 1))) else (some 3))) else (none)) else (none)) else (clause_Right.l0 k x7 x8 (wrap64 (x9 + 1)))
end
def clause_Right.f (k : Nat) (l0 : List (List Int)) : Option (Int) := clause_Right.l0 k l0 (l0.length : Int) 0
theorem clause_Right.mono_l : ∀ k, (∀ y0 y1 y2, LeO (clause_Right.l0 k y0 y1 y2) (clause_Right.l0 (k + 1) y0 y1 y2)) ∧ (∀ y0 y1 y2 y3 y4 y5, LeO (clause_Right.l1 k y0 y1 y2 y3 y4 y5) (clause_Right.l1 (k + 1) y0 y1 y2 y3 y4 y5))
  | 0 => ⟨fun _ _ _ r h => by simp [clause_Right.l0] at h, fun _ _ _ _ _ _ r h => by simp [clause_Right.l1] at h⟩
  | k + 1 => by
    obtain ⟨ih0, ih1⟩ := clause_Right.mono_l k
    refine ⟨?_, ?_⟩
    · intro y0 y1 y2
      unfold clause_Right.l0
      repeat' first
      | (with_reducible exact ih0 _ _ _)
      | (with_reducible exact ih1 _ _ _ _ _ _)
      | (with_reducible exact LeO.refl _)
      | (with_reducible exact LeO.none _)
      | (with_reducible refine LeO.ite ?_ ?_)
      | (with_reducible refine LeO.bind ?_ (fun _ => ?_))
      | exact ih0 _ _ _
      | exact ih1 _ _ _ _ _ _
      | exact LeO.none _
      | refine LeO.ite ?_ ?_
      | refine LeO.bind ?_ (fun _ => ?_)
    · intro y0 y1 y2 y3 y4 y5
      unfold clause_Right.l1
      repeat' first
      | (with_reducible exact ih0 _ _ _)
      | (with_reducible exact ih1 _ _ _ _ _ _)
      | (with_reducible exact LeO.refl _)
      | (with_reducible exact LeO.none _)
      | (with_reducible refine LeO.ite ?_ ?_)
      | (with_reducible refine LeO.bind ?_ (fun _ => ?_))
      | exact ih0 _ _ _
      | exact ih1 _ _ _ _ _ _
      | exact LeO.none _
      | refine LeO.ite ?_ ?_
      | refine LeO.bind ?_ (fun _ => ?_)
theorem clause_Right.mono : ∀ a0 k, LeO (clause_Right.f k a0) (clause_Right.f (k + 1) a0) := by
  intro a0 k
  obtain ⟨ih0, ih1⟩ := clause_Right.mono_l k
  unfold clause_Right.f
  repeat' first
      | (with_reducible exact ih0 _ _ _)
      | (with_reducible exact ih1 _ _ _ _ _ _)
      | (with_reducible exact LeO.refl _)
      | (with_reducible exact LeO.none _)
      | (with_reducible refine LeO.ite ?_ ?_)
      | (with_reducible refine LeO.bind ?_ (fun _ => ?_))
      | exact ih0 _ _ _
      | exact ih1 _ _ _ _ _ _
      | exact LeO.none _
      | refine LeO.ite ?_ ?_
      | refine LeO.bind ?_ (fun _ => ?_)
set_option maxHeartbeats 8000000 in
set_option maxRecDepth 100000 in
theorem clause_Right.calls (k : Nat) (A0 : Option Addr) (c0 : Nat) (l0 : List (List Int)) (r : Int) (w : World) (hr0 : Kd.C (Kd.slice 3 (Kd.int .i64)) w A0 l0.length l0) (hc0 : l0.length ≤ c0) (h : clause_Right.f k l0 = some r) :
    Calls Tryd.prog 18 #[.slice A0 l0.length c0] w fun e w' => e = .returned (.int .i64 r) ∧ Drawn0 w w' := by
  have HR0 := Aside0.mk hr0
  have HC0 := Aside0.mk hc0
  clear hr0 hc0
  have H : (clause_Right.l0 k l0 (l0.length : Int) 0) = some r := h
  clear h
  have H' := Aside0.mk H
  clear H
  go_enter Tryd.func18, Tryd.ntmps18
  go_wp2
  go_loopg [9] k (fun kq v9 w' => ∃ (x9_1 : Int), v9 = .int .i64 x9_1 ∧ Aside0 (clause_Right.l0 kq l0 (l0.length : Int) x9_1 = some r) ∧ Aside0 (kq ≤ k) ∧ Drawn0 w w')
  case atStart => exact ⟨(0), (by first | rfl | (simp; done) | (simp [*]; done)), H', ⟨Nat.le_refl _⟩, by repeat (first | exact Drawn0.refl _ | apply Drawn0.step)⟩
  case round =>
    clear H'
    try clear c1
    obtain ⟨x9_1, rfl, HA, HK1, ⟨m1, rfl⟩⟩ := hrel
    cases gk with
    | zero => exact absurd HA.out (by simp [clause_Right.l0])
    | succ k1 =>
      have H := HA.out
      clear HA
      simp only [clause_Right.l0] at H
      by_cases c2 : x9_1 < (l0.length : Int)
      · rw [if_pos c2] at H
        have c2b0 : decide (x9_1 < (l0.length : Int)) = true := decide_eq_true c2
        clear c2
        by_cases c3 : 0 ≤ x9_1
        · rw [if_pos c3] at H
          have c3b0 : decide (0 ≤ x9_1) = true := decide_eq_true c3
          clear c3
          by_cases c4 : x9_1 < (l0.length : Int)
          · rw [if_pos c4] at H
            have c4b0 : decide (x9_1 < (l0.length : Int)) = true := decide_eq_true c4
            clear c4
            have H' := Aside0.mk H
            clear H
            have p101 : 0 ≤ (x9_1 : Int) := of_decide_eq_true (by first | (with_reducible assumption) | assumption)
            have q101 : x9_1 < (l0.length : Int) := of_decide_eq_true (by first | (with_reducible assumption) | assumption)
            obtain ⟨ad101, A101_0, c101_0, e101, hx101_0, hl101_0, hi101_0⟩ := at_L1 HR0.out x9_1 p101 q101
            cases e101
            have HR101_0 := Aside0.mk hi101_0
            have HC101_0 := Aside0.mk hl101_0
            clear hi101_0 hl101_0
            replace p101 := eq_true p101
            replace q101 := eq_true q101
            go_wp2
            go_loopg [15] k1 (fun kq v15 w' => ∃ (x15_2 : Int), v15 = .int .i64 x15_2 ∧ Aside0 (clause_Right.l1 kq l0 (l0.length : Int) x9_1 (rd_L1 l0 x9_1) ((rd_L1 l0 x9_1).length : Int) x15_2 = some r) ∧ Aside0 (kq ≤ k1) ∧ Drawn0 w w')
            case atStart => exact ⟨(0), (by first | rfl | (simp; done) | (simp [*]; done)), H', ⟨Nat.le_refl _⟩, by repeat (first | exact Drawn0.refl _ | apply Drawn0.step)⟩
            case round =>
              clear H'
              try clear c1
              try clear p1
              try clear q1
              try clear hx1
              try clear c2
              try clear c2b0
              try clear p2
              try clear c3
              try clear c3b0
              try clear c4
              try clear c4b0
              try clear hx101_0
              try clear p101
              try clear q101
              obtain ⟨x15_2, rfl, HA, HK2, ⟨m2, rfl⟩⟩ := hrel
              cases gk with
              | zero => exact absurd HA.out (by simp [clause_Right.l1])
              | succ k2 =>
                have H := HA.out
                clear HA
                simp only [clause_Right.l1] at H
                by_cases c5 : x15_2 < ((rd_L1 l0 x9_1).length : Int)
                · rw [if_pos c5] at H
                  have c5b0 : decide (x15_2 < ((rd_L1 l0 x9_1).length : Int)) = true := decide_eq_true c5
                  clear c5
                  by_cases c6 : 0 ≤ x15_2
                  · rw [if_pos c6] at H
                    have c6b0 : decide (0 ≤ x15_2) = true := decide_eq_true c6
                    clear c6
                    by_cases c7 : x15_2 < ((rd_L1 l0 x9_1).length : Int)
                    · rw [if_pos c7] at H
                      have c7b0 : decide (x15_2 < ((rd_L1 l0 x9_1).length : Int)) = true := decide_eq_true c7
                      clear c7
                      replace H := Option.bind_eq_some_iff.mp H
                      obtain ⟨t103, A80, H⟩ := H
                      replace H : (if t103 = true then (clause_Right.l1 k2 l0 (l0.length : Int) x9_1 (rd_L1 l0 x9_1) ((rd_L1 l0 x9_1).length : Int) (wrap64 (x15_2 + 1))) else (some 3)) = some r := H
                      have A8 := Aside0.mk A80
                      clear A80
                      by_cases c9 : t103 = true
                      · subst c9
                        have H1 : (clause_Right.l1 k2 l0 (l0.length : Int) x9_1 (rd_L1 l0 x9_1) ((rd_L1 l0 x9_1).length : Int) (wrap64 (x15_2 + 1))) = some r := by rw [if_pos rfl] at H; exact H
                        clear H
                        have H := H1
                        clear H1
                        have H' := Aside0.mk H
                        clear H
                        have p102 : 0 ≤ (x15_2 : Int) := of_decide_eq_true (by first | (with_reducible assumption) | assumption)
                        have q102 : x15_2 < ((rd_L1 l0 x9_1).length : Int) := of_decide_eq_true (by first | (with_reducible assumption) | assumption)
                        obtain ⟨ad102, e102, hx102_0⟩ := Kd.at_int HR101_0.out x15_2 p102 q102
                        cases e102
                        replace p102 := eq_true p102
                        replace q102 := eq_true q102
                        go_wp2_with (first | ((with_reducible refine gate_callee (f := 38) rfl ?_); refine goesL_ (some 20) rfl rfl Tryd.func38 (by kernel_rfl) rfl #[.int .i64 (rd (rd_L1 l0 x9_1) x15_2)] rfl (by (try simp only [List.map_toArray, List.map_cons, List.map_nil]); first | done | rfl | (simp only [List.length_drop, List.length_take]; rfl)) ?_; (with_reducible refine (clause_literal.calls (rd (rd_L1 l0 x9_1) x15_2) true _ A8.out).mono ?_); rintro e w' ⟨rfl, ⟨nd, rfl⟩⟩; refine ⟨_, rfl, ?_⟩))
                        go_roundg k2
                        case measure => have := HK1.out; have := HK2.out; omega
                        case rel => exact ⟨(wrap64 (x15_2 + 1)), (by first | rfl | (simp; done) | (simp [*]; done)), H', ⟨by have := HK1.out; have := HK2.out; omega⟩, by repeat (first | exact Drawn0.refl _ | apply Drawn0.step)⟩
                      · replace c9 := Bool.eq_false_iff.mpr c9
                        subst c9
                        have H1 : (some 3) = some r := by rw [if_neg (show ¬ (false = true) by decide)] at H; exact H
                        clear H
                        have H := H1
                        clear H1
                        obtain rfl := Option.some.inj H
                        have p102 : 0 ≤ (x15_2 : Int) := of_decide_eq_true (by first | (with_reducible assumption) | assumption)
                        have q102 : x15_2 < ((rd_L1 l0 x9_1).length : Int) := of_decide_eq_true (by first | (with_reducible assumption) | assumption)
                        obtain ⟨ad102, e102, hx102_0⟩ := Kd.at_int HR101_0.out x15_2 p102 q102
                        cases e102
                        replace p102 := eq_true p102
                        replace q102 := eq_true q102
                        go_wp2_with (first | ((with_reducible refine gate_callee (f := 38) rfl ?_); refine goesL_ (some 20) rfl rfl Tryd.func38 (by kernel_rfl) rfl #[.int .i64 (rd (rd_L1 l0 x9_1) x15_2)] rfl (by (try simp only [List.map_toArray, List.map_cons, List.map_nil]); first | done | rfl | (simp only [List.length_drop, List.length_take]; rfl)) ?_; (with_reducible refine (clause_literal.calls (rd (rd_L1 l0 x9_1) x15_2) false _ A8.out).mono ?_); rintro e w' ⟨rfl, ⟨nd, rfl⟩⟩; refine ⟨_, rfl, ?_⟩))
                        go_ret
                        exact ⟨by first | rfl | (simp; done) | (simp [*]; done), by repeat (first | exact Drawn0.refl _ | apply Drawn0.step)⟩
                    · rw [if_neg c7] at H
                      exact absurd H (by simp)
                  · rw [if_neg c6] at H
                    exact absurd H (by simp)
                · rw [if_neg c5] at H
                  have c5b0 : decide (x15_2 < ((rd_L1 l0 x9_1).length : Int)) = false := decide_eq_false c5
                  clear c5
                  have H' := Aside0.mk H
                  clear H
                  go_wp2
                  go_roundg k2
                  case measure => have := HK1.out; have := HK2.out; omega
                  case rel => exact ⟨(wrap64 (x9_1 + 1)), (by first | rfl | (simp; done) | (simp [*]; done)), H', ⟨by have := HK1.out; have := HK2.out; omega⟩, by repeat (first | exact Drawn0.refl _ | apply Drawn0.step)⟩
          · rw [if_neg c4] at H
            exact absurd H (by simp)
        · rw [if_neg c3] at H
          exact absurd H (by simp)
      · rw [if_neg c2] at H
        have c2b0 : decide (x9_1 < (l0.length : Int)) = false := decide_eq_false c2
        clear c2
        obtain rfl := Option.some.inj H
        go_wp2
        go_ret
        exact ⟨by first | rfl | (simp; done) | (simp [*]; done), by repeat (first | exact Drawn0.refl _ | apply Drawn0.step)⟩
def clause_variable.f (a0 : Int) : Option (Int) := some (mx a0 (wrap64 (-a0)))
set_option maxHeartbeats 8000000 in
set_option maxRecDepth 100000 in
theorem clause_variable.calls (a0 : Int) (r : Int) (w : World) (h : clause_variable.f a0 = some r) :
    Calls Tryd.prog 35 #[.int .i64 a0] w fun e w' => e = .returned (.int .i64 r) ∧ Below w.heap.size w w' := by
  have HB := Aside0.mk (Below.refl w.heap.size w)
  have H : (some (mx a0 (wrap64 (-a0)))) = some r := h
  clear h
  obtain ⟨ji2, hji2⟩ : ∃ j_ : Int, (mx a0 (wrap64 (-a0))) = j_ := ⟨_, rfl⟩
  replace H : (some ji2) = some r := by first | (rw [hji2] at H; exact H) | (simp only [hji2] at H ⊢; exact H)
  have hji2_ : (if a0 < (wrap64 (-a0)) then (wrap64 (-a0)) else a0) = ji2 := hji2
  obtain rfl := Option.some.inj H
  go_enter Tryd.func35, Tryd.ntmps35
  go_wp2
  go_ret
  exact ⟨by first | rfl | (simp [errW_none, errW_some] <;> rfl) | (simp only [← hji2]; first | rfl | (simp [errW_none, errW_some] <;> rfl)) | (simp [*, errW_none, errW_some] <;> rfl), by repeat (first | (with_reducible first | exact HB.out | apply below_alloc | apply pw_below_drewN | apply below_drew1) | exact HB.out)⟩
end Go.Proofs.YtnknoaolbjofiaaDoor.X
end
section
namespace Go.Proofs.YtnknoaolbjofiaaDoor.Cl
def litOk (x : Int) : Bool := x != 0 && (decide (-1048576 ≤ x) && decide (x ≤ 1048576))
def cRight (c : List Int) : Bool := c.all litOk
def lRight (l : List (List Int)) : Bool := l.all cRight
/-- A set of literals that is closed under clauses of one literal left. -/
def Closed (l : List (List Int)) (S : Int → Prop) : Prop := ∀ c ∈ l, ∀ x ∈ c, (∀ y ∈ c, y ≠ x → S (-y)) → S x
/-- What follows. -/
def Der (l : List (List Int)) (fr : List Int) (x : Int) : Prop := ∀ S : Int → Prop, (∀ z ∈ fr, S z) → Closed l S → S x
def Fails (l : List (List Int)) (fr : List Int) : Prop := (∃ x, Der l fr x ∧ Der l fr (-x)) ∨ ∃ c ∈ l, ∀ y ∈ c, Der l fr (-y)
theorem Der.of_from {l : List (List Int)} {fr : List Int} {x : Int} (h : x ∈ fr) : Der l fr x := fun _ hf _ => hf x h
theorem Der.unit {l : List (List Int)} {fr : List Int} {c : List Int} {x : Int} (hc : c ∈ l) (hx : x ∈ c) (h : ∀ y ∈ c, y ≠ x → Der l fr (-y)) : Der l fr x :=
  fun S hf hS => hS c hc x hx fun y hy hne => h y hy hne S hf hS
def hold1 (S : List Int) (x : Int) : Option (List Int) := if S.contains (-x) then none else if S.contains x then some S else some (x :: S)
def start : List Int → List Int → Option (List Int)
  | [], S => some S
  | x :: fr, S => (hold1 S x).bind (start fr)
def unitStep (S : List Int) (c : List Int) : Option (List Int) :=
  match c.filter (fun x => !S.contains (-x)) with
  | [] => none
  | x :: r => if r.all (· == x) && !S.contains x then some (x :: S) else some S
def pass : List (List Int) → List Int → Option (List Int)
  | [], S => some S
  | c :: l, S => (unitStep S c).bind (pass l)
def iter : Nat → List (List Int) → List Int → Option (List Int)
  | 0, _, S => some S
  | n + 1, l, S => (pass l S).bind fun S' => if S'.length = S.length then some S' else iter n l S'
def ins (x : Int) : List Int → List Int
  | [] => [x]
  | y :: r => if x.natAbs ≤ y.natAbs then x :: y :: r else y :: ins x r
def isort : List Int → List Int
  | [] => []
  | x :: r => ins x (isort r)
def total (l : List (List Int)) : Nat := (l.map List.length).foldr (· + ·) 0
def spread (l : List (List Int)) (fr : List Int) : List Int × Bool :=
  if lRight l && cRight fr then
    match start fr [] with
    | none => ([], false)
    | some S => match iter (total l + 1) l S with
      | none => ([], false)
      | some S => (isort S, true)
  else ([], false)
def Up (l : List Int) : Prop := l.Pairwise fun a b => a.natAbs < b.natAbs
theorem mem_ins (x z : Int) : ∀ l, z ∈ ins x l ↔ z = x ∨ z ∈ l
  | [] => by simp [ins]
  | y :: r => by
    unfold ins
    split
    · simp
    · simp only [List.mem_cons, mem_ins x z r]
      constructor
      · rintro (h | h | h)
        · exact .inr (.inl h)
        · exact .inl h
        · exact .inr (.inr h)
      · rintro (h | h | h)
        · exact .inr (.inl h)
        · exact .inl h
        · exact .inr (.inr h)
theorem mem_isort (z : Int) : ∀ l, z ∈ isort l ↔ z ∈ l
  | [] => by simp [isort]
  | x :: r => by simp only [isort, mem_ins, mem_isort z r, List.mem_cons]
theorem up_ins (x : Int) : ∀ l, Up l → (∀ y ∈ l, y.natAbs ≠ x.natAbs) → Up (ins x l)
  | [], _, _ => by simp [ins, Up]
  | y :: r, hu, hne => by
    have hy := hne y (by simp)
    have hu' := List.pairwise_cons.1 hu
    unfold ins
    split
    · rename_i h
      refine List.pairwise_cons.2 ⟨fun z hz => ?_, hu⟩
      rcases List.mem_cons.1 hz with rfl | hz
      · omega
      · have := hu'.1 z hz
        omega
    · rename_i h
      refine List.pairwise_cons.2 ⟨fun z hz => ?_, up_ins x r hu'.2 fun z hz => hne z (by simp [hz])⟩
      rcases (mem_ins x z r).1 hz with rfl | hz
      · omega
      · exact hu'.1 z hz
/-- No literal twice, and no two opposites. -/
def Apart (S : List Int) : Prop := S.Pairwise fun a b => a.natAbs ≠ b.natAbs
theorem up_isort : ∀ l, Apart l → Up (isort l)
  | [], _ => by simp [isort, Up]
  | x :: r, h => by
    have h' := List.pairwise_cons.1 h
    exact up_ins x _ (up_isort r h'.2) fun y hy => fun e => h'.1 y ((mem_isort y r).1 hy) e.symm
theorem up_unique : ∀ a b : List Int, Up a → Up b → (∀ x, x ∈ a ↔ x ∈ b) → a = b
  | [], b, _, _, h => by
    cases b with
    | nil => rfl
    | cons y r => exact absurd ((h y).2 (by simp)) (by simp)
  | x :: r, [], _, _, h => absurd ((h x).1 (by simp)) (by simp)
  | x :: r, y :: s, ha, hb, h => by
    have ha' := List.pairwise_cons.1 ha
    have hb' := List.pairwise_cons.1 hb
    have exy : x = y := by
      rcases List.mem_cons.1 ((h x).1 (by simp)) with e | e
      · exact e
      · rcases List.mem_cons.1 ((h y).2 (by simp)) with e' | e'
        · exact e'.symm
        · have h1 := hb'.1 x e
          have h2 := ha'.1 y e'
          omega
    subst exy
    rw [up_unique r s ha'.2 hb'.2 fun z => ?_]
    constructor
    · intro hz
      rcases List.mem_cons.1 ((h z).1 (List.mem_cons_of_mem _ hz)) with e | e
      · subst e; exact absurd (ha'.1 z hz) (by omega)
      · exact e
    · intro hz
      rcases List.mem_cons.1 ((h z).2 (List.mem_cons_of_mem _ hz)) with e | e
      · subst e; exact absurd (hb'.1 z hz) (by omega)
      · exact e
theorem apart_cons {S : List Int} {x : Int} (h : Apart S) (h1 : x ∉ S) (h2 : -x ∉ S) : Apart (x :: S) :=
  List.pairwise_cons.2 ⟨fun y hy e => by
    have : y = x ∨ y = -x := by omega
    rcases this with rfl | rfl
    · exact h1 hy
    · exact h2 hy, h⟩
theorem apart_opp {S : List Int} (h : Apart S) {x : Int} (hx : x ∈ S) (h0 : x ≠ 0) : -x ∉ S := fun hn => by
  have aux : ∀ S : List Int, Apart S → x ∈ S → -x ∈ S → False := by
    intro S
    induction S with
    | nil => intro _ h; simp at h
    | cons a r ih =>
      intro hS h1 h2
      have hS' := List.pairwise_cons.1 hS
      rcases List.mem_cons.1 h1 with e1 | h1
      · rcases List.mem_cons.1 h2 with e2 | h3
        · omega
        · exact hS'.1 (-x) h3 (by omega)
      · rcases List.mem_cons.1 h2 with e2 | h3
        · exact hS'.1 x h1 (by omega)
        · exact ih hS'.2 h1 h3
  exact aux S h hx hn
/-- A clause that asks for nothing more. -/
def Settled (S : List Int) (c : List Int) : Prop := (∃ x ∈ c, x ∈ S) ∨ ∃ u ∈ c, ∃ v ∈ c, u ≠ v ∧ -u ∉ S ∧ -v ∉ S
theorem done {l : List (List Int)} {fr S : List Int} (hf : ∀ x ∈ fr, x ∈ S) (hS : ∀ x ∈ S, Der l fr x) (ha : Apart S) (h0 : ∀ x ∈ S, x ≠ 0) (hc : ∀ c ∈ l, Settled S c) :
    ¬ Fails l fr ∧ ∀ x, x ∈ S ↔ Der l fr x := by
  have hcl : Closed l (· ∈ S) := by
    intro c hcl x hx hy
    rcases hc c hcl with ⟨z, hz, hzS⟩ | ⟨u, hu, v, hv, huv, hnu, hnv⟩
    · by_cases e : z = x
      · subst e; exact hzS
      · exact absurd (hy z hz e) (apart_opp ha hzS (h0 z hzS))
    · by_cases e : u = x
      · subst e; exact absurd (hy v hv (fun e => huv e.symm)) hnv
      · exact absurd (hy u hu e) hnu
  have hd : ∀ x, x ∈ S ↔ Der l fr x := fun x => ⟨hS x, fun h => h (· ∈ S) hf hcl⟩
  refine ⟨?_, hd⟩
  rintro (⟨x, h1, h2⟩ | ⟨c, hcl', hy⟩)
  · have h1 := (hd x).2 h1
    exact apart_opp ha h1 (h0 x h1) ((hd _).2 h2)
  · rcases hc c hcl' with ⟨z, hz, hzS⟩ | ⟨u, hu, v, hv, huv, hnu, hnv⟩
    · exact apart_opp ha hzS (h0 z hzS) ((hd _).2 (hy z hz))
    · exact hnu ((hd _).2 (hy u hu))
theorem ne_zero_of {c : List Int} (h : cRight c = true) {x : Int} (hx : x ∈ c) : x ≠ 0 := by
  have := List.all_eq_true.1 h x hx
  simp [litOk] at this
  exact this.1
theorem cRight_of {l : List (List Int)} (h : lRight l = true) {c : List Int} (hc : c ∈ l) : cRight c = true := List.all_eq_true.1 h c hc
/-- All that is known of a set on the way. -/
structure Way (l : List (List Int)) (fr S : List Int) : Prop where
  der : ∀ x ∈ S, Der l fr x
  apart : Apart S
  zero : ∀ x ∈ S, x ≠ 0
theorem Way.nil (l : List (List Int)) (fr : List Int) : Way l fr [] := ⟨by simp, by simp [Apart], by simp⟩
theorem Way.cons {l : List (List Int)} {fr S : List Int} {x : Int} (h : Way l fr S) (hx : Der l fr x) (h0 : x ≠ 0) (h1 : x ∉ S) (h2 : -x ∉ S) : Way l fr (x :: S) :=
  ⟨fun z hz => by rcases List.mem_cons.1 hz with rfl | hz <;> first | exact hx | exact h.der z hz, apart_cons h.apart h1 h2, fun z hz => by rcases List.mem_cons.1 hz with rfl | hz <;> first | exact h0 | exact h.zero z hz⟩
theorem hold1_way {l : List (List Int)} {fr S S' : List Int} {x : Int} (h : Way l fr S) (hx : Der l fr x) (h0 : x ≠ 0) (hs : hold1 S x = some S') : Way l fr S' ∧ x ∈ S' ∧ ∀ z ∈ S, z ∈ S' := by
  unfold hold1 at hs
  split at hs
  · cases hs
  · rename_i h2
    split at hs
    · rename_i h1
      cases hs
      exact ⟨h, by simpa using h1, fun _ hz => hz⟩
    · rename_i h1
      cases hs
      exact ⟨h.cons hx h0 (by simpa using h1) (by simpa using h2), by simp, fun _ hz => by simp [hz]⟩
theorem start_way {l : List (List Int)} {fr : List Int} : ∀ (gs S : List Int), (∀ x ∈ gs, x ∈ fr ∧ x ≠ 0) → Way l fr S →
    match start gs S with
    | none => Fails l fr
    | some S' => Way l fr S' ∧ (∀ x ∈ gs, x ∈ S') ∧ ∀ z ∈ S, z ∈ S'
  | [], S, _, h => ⟨h, by simp, fun _ hz => hz⟩
  | x :: gs, S, hg, h => by
    have hx := hg x (by simp)
    unfold start
    cases e : hold1 S x with
    | none =>
      show Fails l fr
      unfold hold1 at e
      split at e
      · rename_i h2
        exact .inl ⟨x, Der.of_from hx.1, h.der _ (by simpa using h2)⟩
      · split at e <;> cases e
    | some S1 =>
      have hw := hold1_way h (Der.of_from hx.1) hx.2 e
      have ih := start_way gs S1 (fun z hz => hg z (by simp [hz])) hw.1
      show match start gs S1 with
        | none => Fails l fr
        | some S' => Way l fr S' ∧ (∀ z ∈ x :: gs, z ∈ S') ∧ ∀ z ∈ S, z ∈ S'
      cases e2 : start gs S1 with
      | none => rw [e2] at ih; exact ih
      | some S2 =>
        rw [e2] at ih
        refine ⟨ih.1, fun z hz => ?_, fun z hz => ih.2.2 z (hw.2.2 z hz)⟩
        rcases List.mem_cons.1 hz with rfl | hz
        · exact ih.2.2 _ hw.2.1
        · exact ih.2.1 z hz
theorem filter_nil {S c : List Int} (h : c.filter (fun x => !S.contains (-x)) = []) : ∀ y ∈ c, -y ∈ S := fun y hy => by
  have := List.filter_eq_nil_iff.1 h y hy
  simpa using this
theorem unitStep_way {l : List (List Int)} {fr S : List Int} {c : List Int} (hc : c ∈ l) (hr : cRight c = true) (h : Way l fr S) :
    match unitStep S c with
    | none => Fails l fr
    | some S' => Way l fr S' ∧ (S' = S ∨ ∃ x ∈ c, x ∉ S ∧ S' = x :: S) ∧ (S' = S → Settled S c) := by
  unfold unitStep
  cases e : c.filter (fun x => !S.contains (-x)) with
  | nil => exact .inr ⟨c, hc, fun y hy => h.der _ (filter_nil e y hy)⟩
  | cons x r =>
    have hmem : ∀ z, z ∈ x :: r ↔ z ∈ c ∧ -z ∉ S := fun z => by rw [← e]; simp
    have hx := (hmem x).1 (by simp)
    simp only
    by_cases hh : (r.all (· == x) && !S.contains x) = true
    · rw [if_pos hh]
      simp only [Bool.and_eq_true, Bool.not_eq_true', List.all_eq_true] at hh
      have hxS : x ∉ S := by simpa using hh.2
      have hd : Der l fr x := Der.unit hc hx.1 fun y hy hne => by
        by_cases hyS : -y ∈ S
        · exact h.der _ hyS
        · rcases List.mem_cons.1 ((hmem y).2 ⟨hy, hyS⟩) with e | hy'
          · exact absurd e hne
          · exact absurd (by simpa using hh.1 y hy') hne
      refine ⟨h.cons hd (ne_zero_of hr hx.1) hxS hx.2, .inr ⟨x, hx.1, hxS, rfl⟩, fun e => ?_⟩
      have := congrArg List.length e
      simp at this
    · rw [if_neg hh]
      refine ⟨h, .inl rfl, fun _ => ?_⟩
      by_cases hxS : x ∈ S
      · exact .inl ⟨x, hx.1, hxS⟩
      · have : ¬ ∀ y ∈ r, (y == x) = true := fun ha => hh (by simp only [Bool.and_eq_true, Bool.not_eq_true', List.all_eq_true]; exact ⟨ha, by simpa using hxS⟩)
        obtain ⟨y, hy⟩ := Classical.not_forall.1 this
        obtain ⟨hyr, hyx⟩ := Classical.not_imp.1 hy
        have hy' := (hmem y).1 (by simp [hyr])
        exact .inr ⟨x, hx.1, y, hy'.1, fun e => hyx (by simp [e]), hx.2, hy'.2⟩
theorem pass_way {l : List (List Int)} {fr : List Int} (hr : lRight l = true) : ∀ (m : List (List Int)) (S : List Int), (∀ c ∈ m, c ∈ l) → Way l fr S →
    match pass m S with
    | none => Fails l fr
    | some S' => Way l fr S' ∧ (∀ z ∈ S, z ∈ S') ∧ S.length ≤ S'.length ∧ (∀ z ∈ S', z ∈ S ∨ ∃ c ∈ l, z ∈ c) ∧ (S'.length = S.length → S' = S ∧ ∀ c ∈ m, Settled S c)
  | [], S, _, h => ⟨h, fun _ hz => hz, Nat.le_refl _, fun _ hz => .inl hz, fun _ => ⟨rfl, by simp⟩⟩
  | c :: m, S, hm, h => by
    have hc := hm c (by simp)
    have hu := unitStep_way hc (cRight_of hr hc) h
    unfold pass
    cases e : unitStep S c with
    | none => rw [e] at hu; exact hu
    | some S1 =>
      rw [e] at hu
      obtain ⟨hw, hor, hst⟩ := hu
      have ih := pass_way hr m S1 (fun z hz => hm z (by simp [hz])) hw
      show match pass m S1 with
        | none => Fails l fr
        | some S' => _
      cases e2 : pass m S1 with
      | none => rw [e2] at ih; exact ih
      | some S2 =>
        rw [e2] at ih
        obtain ⟨i1, i2, i3, i4, i5⟩ := ih
        have h01 : (∀ z ∈ S, z ∈ S1) ∧ (S1 = S ∨ S1.length = S.length + 1) ∧ ∀ z ∈ S1, z ∈ S ∨ ∃ c ∈ l, z ∈ c := by
          rcases hor with rfl | ⟨x, hx, _, rfl⟩
          · exact ⟨fun _ hz => hz, .inl rfl, fun _ hz => .inl hz⟩
          · refine ⟨fun _ hz => by simp [hz], .inr (by simp), fun z hz => ?_⟩
            rcases List.mem_cons.1 hz with rfl | hz
            · exact .inr ⟨c, hc, hx⟩
            · exact .inl hz
        refine ⟨i1, fun z hz => i2 z (h01.1 z hz), ?_, fun z hz => ?_, fun hl => ?_⟩
        · rcases h01.2.1 with e | e
          · rw [← e]; exact i3
          · omega
        · rcases i4 z hz with hz | hz
          · exact h01.2.2 z hz
          · exact .inr hz
        · rcases h01.2.1 with e | e
          · subst e
            obtain ⟨rfl, h5⟩ := i5 hl
            refine ⟨rfl, fun d hd => ?_⟩
            rcases List.mem_cons.1 hd with rfl | hd
            · exact hst rfl
            · exact h5 d hd
          · omega
/-- How many of a list's members stand in a set that is apart. -/
theorem length_le_of_sub : ∀ (S L : List Int), Apart S → (∀ x ∈ S, x ∈ L) → S.length ≤ L.length
  | [], _, _, _ => Nat.zero_le _
  | x :: S, L, ha, hs => by
    have ha' := List.pairwise_cons.1 ha
    have hx : x ∈ L := hs x (by simp)
    have ih := length_le_of_sub S (L.erase x) ha'.2 fun y hy => by
      refine (List.mem_erase_of_ne fun e => ?_).2 (hs y (by simp [hy]))
      subst e
      exact ha'.1 y hy rfl
    rw [List.length_erase_of_mem hx] at ih
    have : 0 < L.length := List.length_pos_of_mem hx
    simp only [List.length_cons]
    omega
def flat (l : List (List Int)) : List Int := l.foldr (· ++ ·) []
theorem mem_flat {z : Int} : ∀ {l : List (List Int)}, z ∈ flat l ↔ ∃ c ∈ l, z ∈ c
  | [] => by simp [flat]
  | c :: l => by
    have := mem_flat (z := z) (l := l)
    simp only [flat] at this
    simp [flat, this]
theorem length_flat : ∀ l : List (List Int), (flat l).length = total l
  | [] => rfl
  | c :: l => by
    have := length_flat l
    simp only [flat, total] at this
    simp [flat, total, this]
theorem iter_way {l : List (List Int)} {fr S0 : List Int} (hr : lRight l = true) : ∀ (n : Nat) (S : List Int), Way l fr S → (∀ z ∈ S0, z ∈ S) → (∀ z ∈ S, z ∈ S0 ∨ ∃ c ∈ l, z ∈ c) → S0.length + total l < S.length + n →
    match iter n l S with
    | none => Fails l fr
    | some S' => Way l fr S' ∧ (∀ z ∈ S0, z ∈ S') ∧ (∀ c ∈ l, Settled S' c) ∧ ∀ z ∈ S', z ∈ S0 ∨ ∃ c ∈ l, z ∈ c
  | 0, S, h, _, hs, hlt => by
    have h1 := length_le_of_sub S (S0 ++ flat l) h.apart fun x hx => by
      rcases hs x hx with h | h
      · simp [h]
      · simp [mem_flat.2 h]
    rw [List.length_append, length_flat] at h1
    omega
  | n + 1, S, h, h0, hs, hlt => by
    have hp := pass_way hr l S (fun _ hc => hc) h
    unfold iter
    cases e : pass l S with
    | none => rw [e] at hp; exact hp
    | some S1 =>
      rw [e] at hp
      obtain ⟨p1, p2, p3, p4, p5⟩ := hp
      simp only [Option.bind_some]
      have hs1 : ∀ z ∈ S1, z ∈ S0 ∨ ∃ c ∈ l, z ∈ c := fun z hz => by
        rcases p4 z hz with h | h
        · exact hs z h
        · exact .inr h
      by_cases hl : S1.length = S.length
      · rw [if_pos hl]
        obtain ⟨rfl, h5⟩ := p5 hl
        exact ⟨p1, h0, h5, hs1⟩
      · rw [if_neg hl]
        exact iter_way hr n S1 p1 (fun z hz => p2 z (h0 z hz)) hs1 (by omega)
/-- THE LAW: what 'spread' tells is what follows. -/
theorem spread_char {l : List (List Int)} {fr : List Int} (hl : lRight l = true) (hf : cRight fr = true) :
    (Fails l fr ∧ spread l fr = ([], false)) ∨ (¬ Fails l fr ∧ ∃ r, spread l fr = (r, true) ∧ Up r ∧ ∀ x, x ∈ r ↔ Der l fr x) := by
  have hs := start_way (l := l) (fr := fr) fr [] (fun x hx => ⟨hx, ne_zero_of hf hx⟩) (Way.nil l fr)
  unfold spread
  rw [hl, hf]
  simp only [Bool.and_self, if_true]
  cases e : start fr [] with
  | none => rw [e] at hs; exact .inl ⟨hs, rfl⟩
  | some S =>
    rw [e] at hs
    have hi := iter_way (S0 := S) hr0 (total l + 1) S hs.1 (fun _ hz => hz) (fun _ hz => .inl hz) (by omega)
    simp only
    cases e2 : iter (total l + 1) l S with
    | none => rw [e2] at hi; exact .inl ⟨hi, rfl⟩
    | some S2 =>
      rw [e2] at hi
      have hd := done (fun x hx => hi.2.1 x (hs.2.1 x hx)) hi.1.der hi.1.apart hi.1.zero hi.2.2.1
      exact .inr ⟨hd.1, isort S2, rfl, up_isort S2 hi.1.apart, fun x => by rw [mem_isort]; exact hd.2 x⟩
where hr0 := hl
/-- Whoever works it out otherwise comes to the same. -/
theorem spread_some {l : List (List Int)} {fr r : List Int} (hl : lRight l = true) (hf : cRight fr = true) (hn : ¬ Fails l fr) (hu : Up r) (hr : ∀ x, x ∈ r ↔ Der l fr x) : spread l fr = (r, true) := by
  rcases spread_char hl hf with ⟨h, _⟩ | ⟨_, r', h1, h2, h3⟩
  · exact absurd h hn
  · rw [h1, up_unique r' r h2 hu fun x => (h3 x).trans (hr x).symm]
theorem spread_none {l : List (List Int)} {fr : List Int} (hl : lRight l = true) (hf : cRight fr = true) (hn : Fails l fr) : spread l fr = ([], false) := by
  rcases spread_char hl hf with ⟨_, h⟩ | ⟨h, _⟩
  · exact h
  · exact absurd hn h
theorem spread_wrong {l : List (List Int)} {fr : List Int} (h : (lRight l && cRight fr) = false) : spread l fr = ([], false) := by
  unfold spread
  rw [h]
  rfl
end Go.Proofs.YtnknoaolbjofiaaDoor.Cl
end
section
set_option linter.unusedVariables false
set_option linter.unusedSimpArgs false
namespace Go.Proofs.YtnknoaolbjofiaaDoor.Cl
open Go.RowKit Go.Proofs.YtnknoaolbjofiaaDoorW.PrintWords Go.Proofs.YtnknoaolbjofiaaDoorW.PrintMore
open Go.Proofs.YtnknoaolbjofiaaDoor.X
theorem wrap_up {i : Int} (h0 : 0 ≤ i) (h : i < 9223372036854775807) : wrap64 (i + 1) = i + 1 := by
  unfold wrap64
  omega
theorem literal_f (x : Int) : clause_literal.f x = some (litOk x) := by
  unfold clause_literal.f litOk
  by_cases h : x = 0
  · subst h; rfl
  · rw [if_neg h]
    by_cases h1 : x ≥ -1048576
    · rw [if_pos h1]; simp [h, show -1048576 ≤ x from h1]
    · rw [if_neg h1]; simp [h, show ¬ -1048576 ≤ x from h1]
theorem drop_all {α : Type} {c : List α} (p : α → Bool) {i : Nat} (h : i < c.length) : (c.drop i).all p = (p c[i] && (c.drop (i + 1)).all p) := by
  rw [List.drop_eq_getElem_cons h, List.all_cons]
theorem rd_at {c : List Int} {i : Nat} (h : i < c.length) : rd c (i : Int) = c[i] := by
  simp [rd, List.getD_eq_getElem?_getD, List.getElem?_eq_getElem h]
theorem rdL_at {l : List (List Int)} {i : Nat} (h : i < l.length) : rd_L1 l (i : Int) = l[i] := by
  simp [rd_L1, List.getD_eq_getElem?_getD, List.getElem?_eq_getElem h]
theorem right_in {l : List (List Int)} {L x9 : Int} {r0 : Int} (h0 : Ev (fun k => clause_Right.l0 k l L (wrap64 (x9 + 1))) r0) (c : List Int) (hc : c.length ≤ 9223372036854775807) (d : Nat) :
    ∀ i : Nat, i ≤ c.length → c.length - i = d → Ev (fun k => clause_Right.l1 k l L x9 c (c.length : Int) (i : Int)) (if (c.drop i).all litOk then r0 else 3) := by
  induction d with
  | zero =>
    intro i hi hd
    have e : i = c.length := by omega
    subst e
    rw [List.drop_length]
    refine Ev.step (f := fun k => clause_Right.l0 k l L (wrap64 (x9 + 1))) (fun k => ?_) h0
    simp only [clause_Right.l1]
    rw [if_neg (by omega)]
  | succ d ih =>
    intro i hi hd
    have hlt : i < c.length := by omega
    have hw : wrap64 ((i : Int) + 1) = ((i + 1 : Nat) : Int) := by rw [wrap_up (by omega) (by omega)]; omega
    rw [drop_all litOk hlt]
    cases hx : litOk c[i] with
    | true =>
      refine Ev.step (f := fun k => clause_Right.l1 k l L x9 c (c.length : Int) ((i + 1 : Nat) : Int)) (fun k => ?_) (ih (i + 1) hlt (by omega))
      simp only [clause_Right.l1]
      rw [if_pos (by omega), if_pos (by omega), if_pos (by omega), rd_at hlt, literal_f, hx, Option.bind_some, if_pos rfl, hw]
    | false =>
      refine Ev.step (f := fun _ => some 3) (fun k => ?_) (Ev.now 3)
      simp only [clause_Right.l1]
      rw [if_pos (by omega), if_pos (by omega), if_pos (by omega), rd_at hlt, literal_f, hx, Option.bind_some]
      rfl
theorem right_out {l : List (List Int)} (hl : l.length ≤ 9223372036854775807) (hc : ∀ c ∈ l, c.length ≤ 9223372036854775807) (d : Nat) :
    ∀ i : Nat, i ≤ l.length → l.length - i = d → Ev (fun k => clause_Right.l0 k l (l.length : Int) (i : Int)) (if (l.drop i).all cRight then 0 else 3) := by
  induction d with
  | zero =>
    intro i hi hd
    have e : i = l.length := by omega
    subst e
    rw [List.drop_length]
    refine Ev.step (f := fun _ => some 0) (fun k => ?_) (Ev.now 0)
    simp only [clause_Right.l0]
    rw [if_neg (by omega)]
  | succ d ih =>
    intro i hi hd
    have hlt : i < l.length := by omega
    have hw : wrap64 ((i : Int) + 1) = ((i + 1 : Nat) : Int) := by rw [wrap_up (by omega) (by omega)]; omega
    have h1 := right_in (l := l) (L := (l.length : Int)) (x9 := (i : Int)) (by rw [hw]; exact ih (i + 1) hlt (by omega)) l[i] (hc _ (List.getElem_mem hlt)) _ 0 (Nat.zero_le _) rfl
    rw [drop_all cRight hlt]
    refine Ev.step (f := fun k => clause_Right.l1 k l (l.length : Int) (i : Int) l[i] (l[i].length : Int) 0) (fun k => ?_) ?_
    · simp only [clause_Right.l0]
      rw [if_pos (by omega), if_pos (by omega), if_pos (by omega), rdL_at hlt]
    · simp only [List.drop_zero] at h1
      cases hx : cRight l[i] with
      | true =>
        unfold cRight at hx
        rw [hx, if_pos rfl] at h1
        simpa using h1
      | false =>
        unfold cRight at hx
        rw [hx] at h1
        simpa using h1
theorem right_ev {l : List (List Int)} (hl : l.length ≤ 9223372036854775807) (hc : ∀ c ∈ l, c.length ≤ 9223372036854775807) : Ev (fun k => clause_Right.f k l) (if lRight l then 0 else 3) := by
  have := right_out hl hc _ 0 (Nat.zero_le _) rfl
  simpa [clause_Right.f, lRight] using this
theorem kdC_len {w : World} {A : Option Addr} {n : Nat} {c : List Int} (h : Kd.C (Kd.int .i64) w A n c) : c.length ≤ 9223372036854775807 := by
  have h1 := h.1
  have h2 := h.2.1
  omega
theorem kdC_rows {w : World} {A : Option Addr} {n : Nat} {l : List (List Int)} (h : Kd.C (Kd.slice 3 (Kd.int .i64)) w A n l) : l.length ≤ 9223372036854775807 ∧ ∀ c ∈ l, c.length ≤ 9223372036854775807 := by
  refine ⟨by have h1 := h.1; have h2 := h.2.1; omega, fun c hc => ?_⟩
  obtain ⟨i, hi, rfl⟩ := List.mem_iff_getElem.1 hc
  have hn : i < n := by have := h.1; omega
  obtain ⟨ad, cs, e, _, hK, _⟩ := Kd.C_get h ([] : List Int) (i : Int) (by omega) (by omega)
  obtain ⟨A0, c0, _, _, g0⟩ := hK
  simp only [Int.toNat_natCast, List.getD_eq_getElem?_getD, List.getElem?_eq_getElem hi, Option.getD_some] at g0
  exact kdC_len g0
theorem right_calls (A : Option Addr) (cap : Nat) (l : List (List Int)) (w : World) (h : Kd.C (Kd.slice 3 (Kd.int .i64)) w A l.length l) (hc : l.length ≤ cap) :
    Calls Tryd.prog 18 #[.slice A l.length cap] w fun e w' => e = .returned (.int .i64 (if lRight l then 0 else 3)) ∧ ∃ n, w' = w.drewN n := by
  obtain ⟨k, hk⟩ := (right_ev (kdC_rows h).1 (kdC_rows h).2).rounds
  exact (clause_Right.calls k A cap l _ w h hc hk).mono fun e w' ⟨he, hd⟩ => ⟨he, hd.out⟩
end Go.Proofs.YtnknoaolbjofiaaDoor.Cl
end
