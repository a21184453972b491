/- For the statement of the row ClauseBack: what its proof needs of the text B4. -/
import Derived.Test.YtnknoaolbjofiaaDoorKB1
import Derived.Test.YtnknoaolbjofiaaDoorKB2
import Derived.Test.YtnknoaolbjofiaaDoorKB3

section
set_option linter.unusedVariables false
set_option linter.unusedSimpArgs false
namespace Go.Proofs.YtnknoaolbjofiaaDoor.Cl
open Go.RowKit Go.Proofs.YtnknoaolbjofiaaDoorW.PrintWords Go.Proofs.YtnknoaolbjofiaaDoorW.PrintLast Go.Proofs.YtnknoaolbjofiaaDoorW.PrintMore
theorem ki_of {w : World} {b : Nat} {c : List Int} (hl : c.length ≤ 9223372036854775807) (h : ∀ j (hj : j < c.length), w.cell? ⟨b, j, none⟩ = some (.int .i64 c[j])) : (Kd.int .i64).C w (some ⟨b, 0, none⟩) c.length c :=
  ⟨rfl, hl, fun _ => ⟨_, rfl, fun j p hj => by
    obtain ⟨hj1, e⟩ := List.getElem?_eq_some_iff.1 hj
    refine ⟨[.int .i64 p], rfl, rfl, fun i u hi => ?_⟩
    cases i with
    | zero =>
      obtain rfl : u = .int .i64 p := by simpa using hi.symm
      rw [add_plain, show j * (Kd.int .i64).sz + 0 = j from Nat.mul_one j, h j hj1, e]
    | succ i => simp at hi⟩⟩
theorem kr_of {w : World} {b : Nat} {l : List (List Int)} (hl : l.length ≤ 9223372036854775807) (h : ∀ j (hj : j < l.length), ∃ A0 c0, w.cell? ⟨b, j, none⟩ = some (.slice A0 l[j].length c0) ∧ l[j].length ≤ c0 ∧ (Kd.int .i64).C w A0 l[j].length l[j]) : (Kd.slice 3 (Kd.int .i64)).C w (some ⟨b, 0, none⟩) l.length l :=
  ⟨rfl, hl, fun _ => ⟨_, rfl, fun j p hj => by
    obtain ⟨hj1, e⟩ := List.getElem?_eq_some_iff.1 hj
    obtain ⟨A0, c0, h1, h2, h3⟩ := h j hj1
    subst e
    refine ⟨[.slice A0 l[j].length c0], rfl, ⟨A0, c0, rfl, h2, h3⟩, fun i u hi => ?_⟩
    cases i with
    | zero =>
      obtain rfl : u = .slice A0 l[j].length c0 := by simpa using hi.symm
      rw [add_plain, show j * (Kd.slice 3 (Kd.int .i64)).sz + 0 = j from Nat.mul_one j]
      exact h1
    | succ i => simp at hi⟩⟩
theorem ki_one {w : World} {b : Nat} {x : Int} (h : w.cell? ⟨b, 0, none⟩ = some (.int .i64 x)) : (Kd.int .i64).C w (some ⟨b, 0, none⟩) [x].length [x] :=
  ki_of (by simp) fun j hj => by
    obtain rfl : j = 0 := by simpa using hj
    exact h
theorem ki_two {w : World} {b : Nat} {x y : Int} (h : w.cell? ⟨b, 0, none⟩ = some (.int .i64 x)) (h2 : w.cell? ⟨b, 1, none⟩ = some (.int .i64 y)) : (Kd.int .i64).C w (some ⟨b, 0, none⟩) [x, y].length [x, y] :=
  ki_of (by simp) fun j hj => by
    rcases j with _ | _ | j
    · exact h
    · exact h2
    · simp at hj
      omega
theorem kr_two {w : World} {b : Nat} {c d : List Int} {A0 B0 : Option Addr} {c0 d0 : Nat} (h : w.cell? ⟨b, 0, none⟩ = some (.slice A0 c.length c0)) (h2 : c.length ≤ c0) (h3 : (Kd.int .i64).C w A0 c.length c)
    (k : w.cell? ⟨b, 1, none⟩ = some (.slice B0 d.length d0)) (k2 : d.length ≤ d0) (k3 : (Kd.int .i64).C w B0 d.length d) : (Kd.slice 3 (Kd.int .i64)).C w (some ⟨b, 0, none⟩) [c, d].length [c, d] :=
  kr_of (by simp) fun j hj => by
    rcases j with _ | _ | j
    · exact ⟨A0, c0, h, h2, h3⟩
    · exact ⟨B0, d0, k, k2, k3⟩
    · simp at hj
      omega
theorem spread_ex1 : spread [[-1, 2], [-2, 3]] [1] = ([1, 2, 3], true) := by decide +kernel
theorem spread_ex2 : spread [[-1, 2], [-2, 3]] [1, -3] = ([], false) := by decide +kernel
theorem print_ex : printL [[-1, 2], [-2, 3]] = [112, 32, 99, 110, 102, 32, 51, 32, 50, 10, 45, 49, 32, 50, 32, 48, 10, 45, 50, 32, 51, 32, 48, 10] := by decide +kernel
set_option maxRecDepth 100000 in
set_option maxHeartbeats 4000000 in
theorem awake14_calls (w : World) (hT : Tab w) : Calls Tryd.prog 10 #[] w fun e w' => e = .returned (.bool true) ∧ Below w.heap.size w w' := by
  have HT := Lib.hid hT
  clear hT
  go_enter Tryd.func10, Tryd.ntmps10
  go_wp2_with fail
  have K1 : Aside0 ((Kd.slice 3 (Kd.int .i64)).C ((((w.alloc (.cells #[.int .i64 (-1), .int .i64 2] 3)).alloc (.cells #[.int .i64 (-2), .int .i64 3] 3)).alloc (.cells #[.slice (some ⟨w.heap.size, 0, none⟩) 2 2, .slice (some ⟨w.heap.size + 1, 0, none⟩) 2 2] 23)).alloc (.cells #[.int .i64 1] 3)) (some ⟨w.heap.size + 1 + 1, 0, none⟩) ([[-1, 2], [-2, 3]] : List (List Int)).length [[-1, 2], [-2, 3]]) :=
    ⟨kr_two (c0 := 2) (d0 := 2) (by go_simp; rfl) (by decide) (ki_two (by go_simp) (by go_simp)) (by go_simp; rfl) (by decide) (ki_two (by go_simp) (by go_simp))⟩
  have K2 : Aside0 ((Kd.int .i64).C ((((w.alloc (.cells #[.int .i64 (-1), .int .i64 2] 3)).alloc (.cells #[.int .i64 (-2), .int .i64 3] 3)).alloc (.cells #[.slice (some ⟨w.heap.size, 0, none⟩) 2 2, .slice (some ⟨w.heap.size + 1, 0, none⟩) 2 2] 23)).alloc (.cells #[.int .i64 1] 3)) (some ⟨w.heap.size + 1 + 1 + 1, 0, none⟩) ([1] : List Int).length [1]) :=
    ⟨ki_one (by go_simp)⟩
  have HB1 : Aside0 (Below w.heap.size w ((((w.alloc (.cells #[.int .i64 (-1), .int .i64 2] 3)).alloc (.cells #[.int .i64 (-2), .int .i64 3] 3)).alloc (.cells #[.slice (some ⟨w.heap.size, 0, none⟩) 2 2, .slice (some ⟨w.heap.size + 1, 0, none⟩) 2 2] 23)).alloc (.cells #[.int .i64 1] 3))) :=
    ⟨by repeat (first | exact Below.refl _ _ | apply below_alloc)⟩
  generalize (((w.alloc (.cells #[.int .i64 (-1), .int .i64 2] 3)).alloc (.cells #[.int .i64 (-2), .int .i64 3] 3)).alloc (.cells #[.slice (some ⟨w.heap.size, 0, none⟩) 2 2, .slice (some ⟨w.heap.size + 1, 0, none⟩) 2 2] 23)).alloc (.cells #[.int .i64 1] 3) = W1 at K1 K2 HB1 ⊢
  refine (spreads_calls _ 2 [[-1, 2], [-2, 3]] _ 1 [1] W1 K1.out (Nat.le_refl 2) K2.out (Nat.le_refl 1) (by decide) (by decide)).mono ?_
  rw [spread_ex1]
  rintro e W2 ⟨v1, rfl, hR2, hB2⟩
  have HR2 := Aside0.mk hR2
  have HB2 := Aside0.mk hB2
  clear hR2 hB2 K2
  go_wp2_with fail
  have K3 : Aside0 ((Kd.int .i64).C (W2.alloc (.cells #[.int .i64 1, .int .i64 (-3)] 3)) (some ⟨W2.heap.size, 0, none⟩) ([1, -3] : List Int).length [1, -3]) :=
    ⟨ki_two (by go_simp) (by go_simp)⟩
  have HB3 : Aside0 (Below W2.heap.size W2 (W2.alloc (.cells #[.int .i64 1, .int .i64 (-3)] 3))) := ⟨below_alloc (Below.refl _ _) _⟩
  generalize W2.alloc (.cells #[.int .i64 1, .int .i64 (-3)] 3) = W3 at K3 HB3 ⊢
  have HB13 := Aside0.mk (below_then HB2.out HB2.out.size HB3.out)
  refine (spreads_calls _ 2 [[-1, 2], [-2, 3]] _ 2 [1, -3] W3 (Kd.C_below K1.out HB13.out) (Nat.le_refl 2) K3.out (Nat.le_refl 2) (by decide) (by decide)).mono ?_
  rw [spread_ex2]
  rintro e W4 ⟨v2, rfl, hR4, hB4⟩
  have HB24 := Aside0.mk (below_then HB3.out HB3.out.size hB4)
  have HB14 := Aside0.mk (below_then HB13.out HB13.out.size hB4)
  clear hR4 hB4 K3 HB3 HB13
  have HB04 := Aside0.mk (below_then HB1.out HB1.out.size HB14.out)
  go_wp2_with fail
  refine (print_calls _ 2 [[-1, 2], [-2, 3]] W4 (Kd.C_below K1.out HB14.out) (Nat.le_refl 2) (by decide) (by decide) (by decide) ((Lib.tabBelow_of_tabIs HT.out) W4 HB04.out)).mono ?_
  rw [print_ex]
  rintro e W5 ⟨rfl, hb5⟩
  have HB5 := Aside0.mk (below_then HB04.out HB04.out.size hb5)
  have HR5 := Aside0.mk (Kd.R_below HR2.out (below_then HB24.out HB24.out.size hb5))
  clear hb5 HB04 HB14 HB24 HB1 HB2 HR2 K1 HT
  obtain ⟨A6, d6, hv6, hl6, hC6⟩ := Kd.R_reads HR5.out
  have hv6 : v1 = .slice A6 3 d6 := hv6
  have hl6 : 3 ≤ d6 := hl6
  obtain ⟨ad0, e0, hcell0⟩ := Kd.at_int hC6 (0 : Int) (by decide) (by decide)
  obtain ⟨ad1, e1, hcell1⟩ := Kd.at_int hC6 (1 : Int) (by decide) (by decide)
  obtain ⟨ad2, e2, hcell2⟩ := Kd.at_int hC6 (2 : Int) (by decide) (by decide)
  cases e0
  cases e1
  cases e2
  obtain ⟨b6, o6, p6⟩ := ad0
  have hc0 : W5.cell? ⟨b6, o6, p6⟩ = some (.int .i64 1) := hcell0
  have hc1 : W5.cell? ⟨b6, o6 + 1, none⟩ = some (.int .i64 2) := hcell1
  have hc2 : W5.cell? ⟨b6, o6 + 2, none⟩ = some (.int .i64 3) := hcell2
  subst hv6
  clear hC6 HR5 hcell0 hcell1 hcell2
  go_wp2
  go_ret
  exact ⟨rfl, HB5.out⟩
end Go.Proofs.YtnknoaolbjofiaaDoor.Cl
end
section
set_option linter.unusedVariables false
namespace Go.Proofs.YtnknoaolbjofiaaDoor.Cl
open Go.RowKit Go.Proofs.YtnknoaolbjofiaaDoorW.PrintWords Go.Proofs.YtnknoaolbjofiaaDoorW.PrintLast Go.Proofs.YtnknoaolbjofiaaDoorW.PrintMore
end Go.Proofs.YtnknoaolbjofiaaDoor.Cl
end
