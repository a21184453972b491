/- The document's example of layer 18: it is as it says. -/
import Derived.Test.YtphloehjcfipfaaClCheck
set_option linter.unusedVariables false
set_option linter.unusedSimpArgs false
namespace Go.Proofs.Ytphloehjcfipfaa.Cl
open Go.RowKit Go.Proofs.YtphloehjcfipfaaW.PrintWords

theorem ki_of {w : World} {b : Nat} {c : List Int} (hl : c.length ≤ 9223372036854775807) (h : ∀ j (hj : j < c.length), w.cell? ⟨b, j, none⟩ = some (.int .i64 c[j])) : (Kd.int .i64).C w (some ⟨b, 0, none⟩) c.length c :=
  ⟨rfl, hl, fun _ => ⟨_, rfl, fun j p hj => by
    obtain ⟨hj1, e⟩ := List.getElem?_eq_some_iff.1 hj
    refine ⟨[.int .i64 p], rfl, rfl, fun i u hi => ?_⟩
    cases i with
    | zero =>
      obtain rfl : u = .int .i64 p := by simpa using hi.symm
      rw [add_plain, show j * (Kd.int .i64).sz + 0 = j from Nat.mul_one j, h j hj1, e]
    | succ i => simp at hi⟩⟩
theorem kr_of {w : World} {b : Nat} {l : List (List Int)} (hl : l.length ≤ 9223372036854775807) (h : ∀ j (hj : j < l.length), ∃ A0 c0, w.cell? ⟨b, j, none⟩ = some (.slice A0 l[j].length c0) ∧ l[j].length ≤ c0 ∧ (Kd.int .i64).C w A0 l[j].length l[j]) : (Kd.slice 3 (Kd.int .i64)).C w (some ⟨b, 0, none⟩) l.length l :=
  ⟨rfl, hl, fun _ => ⟨_, rfl, fun j p hj => by
    obtain ⟨hj1, e⟩ := List.getElem?_eq_some_iff.1 hj
    obtain ⟨A0, c0, h1, h2, h3⟩ := h j hj1
    subst e
    refine ⟨[.slice A0 l[j].length c0], rfl, ⟨A0, c0, rfl, h2, h3⟩, fun i u hi => ?_⟩
    cases i with
    | zero =>
      obtain rfl : u = .slice A0 l[j].length c0 := by simpa using hi.symm
      rw [add_plain, show j * (Kd.slice 3 (Kd.int .i64)).sz + 0 = j from Nat.mul_one j]
      exact h1
    | succ i => simp at hi⟩⟩
/-- One literal, or none, in a block. -/
theorem ki_one {w : World} {b : Nat} {x : Int} (h : w.cell? ⟨b, 0, none⟩ = some (.int .i64 x)) : (Kd.int .i64).C w (some ⟨b, 0, none⟩) [x].length [x] :=
  ki_of (by simp) fun j hj => by
    obtain rfl : j = 0 := by simpa using hj
    exact h
theorem ki_nil (w : World) (A : Option Addr) : (Kd.int .i64).C w A ([] : List Int).length [] := ⟨rfl, by simp, fun h => by simp at h⟩
theorem kr_one {w : World} {b : Nat} {c : List Int} {A0 : Option Addr} {c0 : Nat} (h : w.cell? ⟨b, 0, none⟩ = some (.slice A0 c.length c0)) (h2 : c.length ≤ c0) (h3 : (Kd.int .i64).C w A0 c.length c) : (Kd.slice 3 (Kd.int .i64)).C w (some ⟨b, 0, none⟩) [c].length [c] :=
  kr_of (by simp) fun j hj => by
    obtain rfl : j = 0 := by simpa using hj
    exact ⟨A0, c0, h, h2, h3⟩
theorem kr_two {w : World} {b : Nat} {c d : List Int} {A0 B0 : Option Addr} {c0 d0 : Nat} (h : w.cell? ⟨b, 0, none⟩ = some (.slice A0 c.length c0)) (h2 : c.length ≤ c0) (h3 : (Kd.int .i64).C w A0 c.length c)
    (k : w.cell? ⟨b, 1, none⟩ = some (.slice B0 d.length d0)) (k2 : d.length ≤ d0) (k3 : (Kd.int .i64).C w B0 d.length d) : (Kd.slice 3 (Kd.int .i64)).C w (some ⟨b, 0, none⟩) [c, d].length [c, d] :=
  kr_of (by simp) fun j hj => by
    rcases j with _ | _ | j
    · exact ⟨A0, c0, h, h2, h3⟩
    · exact ⟨B0, d0, k, k2, k3⟩
    · simp at hj
      omega
theorem kr_three {w : World} {b : Nat} {c d f : List Int} {A0 B0 C0 : Option Addr} {c0 d0 f0 : Nat} (h : w.cell? ⟨b, 0, none⟩ = some (.slice A0 c.length c0)) (h2 : c.length ≤ c0) (h3 : (Kd.int .i64).C w A0 c.length c)
    (k : w.cell? ⟨b, 1, none⟩ = some (.slice B0 d.length d0)) (k2 : d.length ≤ d0) (k3 : (Kd.int .i64).C w B0 d.length d) (m : w.cell? ⟨b, 2, none⟩ = some (.slice C0 f.length f0)) (m2 : f.length ≤ f0) (m3 : (Kd.int .i64).C w C0 f.length f) : (Kd.slice 3 (Kd.int .i64)).C w (some ⟨b, 0, none⟩) [c, d, f].length [c, d, f] :=
  kr_of (by simp) fun j hj => by
    rcases j with _ | _ | _ | j
    · exact ⟨A0, c0, h, h2, h3⟩
    · exact ⟨B0, d0, k, k2, k3⟩
    · exact ⟨C0, f0, m, m2, m3⟩
    · simp at hj
      omega

theorem check_ex1 : check [[1], [-1]] [[]] = (0, 0) := by decide +kernel
theorem check_ex2 : check [[1], [2]] [[1], [-1], []] = (14, 1) := by decide +kernel

set_option maxRecDepth 100000 in
set_option maxHeartbeats 2000000 in
theorem awake_calls (w : World) : Calls Try.prog 12 #[] w fun e w' => e = .returned (.bool true) ∧ Below w.heap.size w w' := by
  go_enter Try.func12, Try.ntmps12
  go_wp2_with fail
  refine (check_calls (some ⟨_, 0, none⟩) 2 [[1], [-1]] (some ⟨_, 0, none⟩) 1 [[]] _ ?c1 (Nat.le_refl 2) ?c2 (Nat.le_refl 1) (by unfold Fit2; decide)).mono ?_
  case c1 => exact kr_two (c0 := 1) (d0 := 1) (by go_simp; rfl) (by decide) (ki_one (by go_simp)) (by go_simp; rfl) (by decide) (ki_one (by go_simp))
  case c2 => exact kr_one (c0 := 0) (by go_simp; rfl) (by decide) (ki_nil _ _)
  intro e w1 hp
  unfold CheckPost at hp
  rw [check_ex1] at hp
  obtain ⟨rfl, hb1⟩ := hp
  have HB1 := Aside0.mk (Below.trans (b := _) (by repeat (first | exact Below.refl _ _ | apply below_alloc)) (hb1.mono (by simp; omega)) : Below w.heap.size w w1)
  clear hb1
  go_wp2_with fail
  refine (check_calls (some ⟨_, 0, none⟩) 2 [[1], [2]] (some ⟨_, 0, none⟩) 3 [[1], [-1], []] _ ?c1 (Nat.le_refl 2) ?c2 (Nat.le_refl 3) (by unfold Fit2; decide)).mono ?_
  case c1 => exact kr_two (c0 := 1) (d0 := 1) (by go_simp; rfl) (by decide) (ki_one (by go_simp)) (by go_simp; rfl) (by decide) (ki_one (by go_simp))
  case c2 => exact kr_three (c0 := 1) (d0 := 1) (f0 := 0) (by go_simp; rfl) (by decide) (ki_one (by go_simp)) (by go_simp; rfl) (by decide) (ki_one (by go_simp)) (by go_simp; rfl) (by decide) (ki_nil _ _)
  intro e w2 hp
  unfold CheckPost at hp
  rw [check_ex2] at hp
  obtain ⟨rfl, hb2⟩ := hp
  have h2 : Below w1.heap.size w1 w2 := Below.trans (by repeat (first | exact Below.refl _ _ | apply below_alloc)) (hb2.mono (by simp; omega))
  have HB2 := Aside0.mk (below_then HB1.out HB1.out.size h2)
  clear h2
  clear hb2
  go_wp2
  go_ret
  exact ⟨rfl, HB2.out⟩
end Go.Proofs.Ytphloehjcfipfaa.Cl
namespace Go.Proofs.Ytphloehjcfipfaa.X
open Go.RowKit Go.Proofs.YtphloehjcfipfaaW.PrintWords Go.Proofs.Ytphloehjcfipfaa.Cl
def backreachlaw18_awake.f : Option Bool := some true
theorem backreachlaw18_awake.calls (r : Bool) (w : World) (h : backreachlaw18_awake.f = some r) : Calls Try.prog 12 #[] w fun e w' => e = .returned (.bool r) ∧ Below w.heap.size w w' := by
  obtain rfl : true = r := Option.some.inj h
  exact awake_calls w
end Go.Proofs.Ytphloehjcfipfaa.X
