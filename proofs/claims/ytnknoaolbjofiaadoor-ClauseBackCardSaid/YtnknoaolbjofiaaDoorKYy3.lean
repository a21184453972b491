/- For the statement of the row ClauseBack: what its proof needs of the text Yy3. -/
import Derived.Test.YtnknoaolbjofiaaDoorKYy0
import Derived.Test.YtnknoaolbjofiaaDoorKB4

namespace Go.Proofs.YtnknoaolbjofiaaDoor.X
open Go.RowKit Go.Proofs.YtnknoaolbjofiaaDoorW.PrintWords Go.Proofs.YtnknoaolbjofiaaDoorW.PrintLast Go.Proofs.YtnknoaolbjofiaaDoorW.PrintMore
attribute [local go_sem] max2_int min2_int max_two min_two max_three min_three max_four min_four
set_option linter.unusedVariables false
set_option linter.unusedSimpArgs false
def backreachref04_Digits.l0 : Nat → Int → ByteArray → Option (ByteArray)
  | 0, _, _ => none
  | k + 1, x0, x3 => if x0 > 9 then ((some (([(IntKind.u64.wrap (48 + (Int.tmod x0 10))) % 256] : List Int) : List Int)).bind fun y101 => (if (strOfNums y101).size + x3.size ≤ 9223372036854775807 then (backreachref04_Digits.l0 k (IntKind.u64.wrap (Int.tdiv x0 10)) ((strOfNums y101) ++ x3)) else (none))) else ((some (([(IntKind.u64.wrap (48 + x0)) % 256] : List Int) : List Int)).bind fun y104 => (if (strOfNums y104).size + x3.size ≤ 9223372036854775807 then (some ((strOfNums y104) ++ x3)) else (none)))
def backreachref04_Digits.f (k : Nat) (a0 : Int) : Option (ByteArray) := backreachref04_Digits.l0 k a0 (⟨#[]⟩ : ByteArray)
theorem backreachref04_Digits.mono_l : ∀ k, (∀ y0 y1, LeO (backreachref04_Digits.l0 k y0 y1) (backreachref04_Digits.l0 (k + 1) y0 y1))
  | 0 => fun _ _ r h => by simp [backreachref04_Digits.l0] at h
  | k + 1 => by
    have ih0 := backreachref04_Digits.mono_l k
    · intro y0 y1
      unfold backreachref04_Digits.l0
      repeat' first
      | (with_reducible exact ih0 _ _)
      | (with_reducible exact LeO.refl _)
      | (with_reducible exact LeO.none _)
      | (with_reducible refine LeO.ite ?_ ?_)
      | (with_reducible refine LeO.bind ?_ (fun _ => ?_))
      | exact ih0 _ _
      | exact LeO.none _
      | refine LeO.ite ?_ ?_
      | refine LeO.bind ?_ (fun _ => ?_)
theorem backreachref04_Digits.mono : ∀ a0 k, LeO (backreachref04_Digits.f k a0) (backreachref04_Digits.f (k + 1) a0) := by
  intro a0 k
  have ih0 := backreachref04_Digits.mono_l k
  unfold backreachref04_Digits.f
  repeat' first
      | (with_reducible exact ih0 _ _)
      | (with_reducible exact LeO.refl _)
      | (with_reducible exact LeO.none _)
      | (with_reducible refine LeO.ite ?_ ?_)
      | (with_reducible refine LeO.bind ?_ (fun _ => ?_))
      | exact ih0 _ _
      | exact LeO.none _
      | refine LeO.ite ?_ ?_
      | refine LeO.bind ?_ (fun _ => ?_)
set_option maxHeartbeats 8000000 in
set_option maxRecDepth 100000 in
theorem backreachref04_Digits.calls (k : Nat) (a0 : Int) (r : ByteArray) (w : World) (h : backreachref04_Digits.f k a0 = some r) :
    Calls Tryd.prog 56 #[.int .u64 a0] w fun e w' => e = .returned (.string r) ∧ Below w.heap.size w w' := by
  have HB := Aside0.mk (Below.refl w.heap.size w)
  have H : (backreachref04_Digits.l0 k a0 (⟨#[]⟩ : ByteArray)) = some r := h
  clear h
  have H' := Aside0.mk H
  clear H
  go_enter Tryd.func56, Tryd.ntmps56
  go_wp2
  go_loopg [0, 3] k (fun kq v0 v3 w' => ∃ (x0_1 : Int) (x3_1 : ByteArray), v0 = .int .u64 x0_1 ∧ v3 = .string x3_1 ∧ Aside0 (backreachref04_Digits.l0 kq x0_1 x3_1 = some r) ∧ Aside0 (kq ≤ k) ∧ Aside0 (Below w.heap.size w w'))
  case atStart => exact ⟨(a0), ((⟨#[]⟩ : ByteArray)), (by first | rfl | (simp; done) | (simp [*]; done)), (by first | rfl | (simp; done) | (simp [*]; done)), H', ⟨Nat.le_refl _⟩, ⟨by repeat (first | (with_reducible first | exact HB.out | apply below_alloc | apply pw_below_drewN | apply below_drew1) | exact HB.out)⟩⟩
  case round =>
    clear H'
    obtain ⟨x0_1, x3_1, rfl, rfl, HA, HK1, HB⟩ := hrel
    cases gk with
    | zero => exact absurd HA.out (by simp [backreachref04_Digits.l0])
    | succ k1 =>
      have H := HA.out
      clear HA
      simp only [backreachref04_Digits.l0] at H
      by_cases c2 : x0_1 > 9
      · rw [if_pos c2] at H
        have c2b0 : decide (9 < x0_1) = true := decide_eq_true c2
        clear c2
        obtain ⟨y101, hy101⟩ : ∃ y_ : List Int, y_ = (([(IntKind.u64.wrap (48 + (Int.tmod x0_1 10))) % 256] : List Int)) := ⟨_, rfl⟩
        replace H : (if (strOfNums y101).size + x3_1.size ≤ 9223372036854775807 then (backreachref04_Digits.l0 k1 (IntKind.u64.wrap (Int.tdiv x0_1 10)) ((strOfNums y101) ++ x3_1)) else (none)) = some r := by first | (rw [hy101]; with_reducible exact H) | (have H2_ := (Option.bind_some _ _).symm.trans H; rw [hy101]; with_reducible exact H2_) | (have H2_ := (Option.bind_some _ _).symm.trans H; with_reducible exact H2_) | with_reducible exact H | (rw [hy101]; exact H) | exact H
        have Ny101 := Aside0.mk hy101
        clear hy101
        by_cases c3 : (strOfNums y101).size + x3_1.size ≤ 9223372036854775807
        · rw [if_pos c3] at H
          have c3b0 := eq_true c3
          have c3b1 : decide ((strOfNums y101).size + x3_1.size ≤ 9223372036854775807) = true := decide_eq_true c3
          try have c3b2 : (9223372036854775807 < (strOfNums y101).size + x3_1.size) = False := eq_false (Nat.not_lt.2 c3)
          have H' := Aside0.mk H
          clear H
          go_wp2_with (first | ((with_reducible refine gate_dst (N := 10) rfl ?_); refine Kd.R_lit (Kd.int .u8) _ 5 ?hg (N := 10) ?hd (xs := ([(IntKind.u64.wrap (48 + (Int.tmod x0_1 10))) % 256] : List Int)) (inner := [.int .u8 ((IntKind.u64.wrap (48 + (Int.tmod x0_1 10))) % 256)]) (ok := fun _ => True) (okp := fun _ => True) ?hr ?hp (fun _ hk => hk) trivial (Below.refl _ _) (Nat.le_refl _) (by simp) ?_; (case hd => rfl); (case hg => rfl); (case hr => first | (go_simp; done) | (go_simp; rfl)); (case hp => exact (Reps.one (show Kd.M (Kd.int .u8) _ _ _ ((IntKind.u64.wrap (48 + (Int.tmod x0_1 10))) % 256) [.int .u8 ((IntKind.u64.wrap (48 + (Int.tmod x0_1 10))) % 256)] from rfl) (Reps.none _ _))); intro v102 w4 ho5 hb hg_ hnew_; clear hg_ hnew_; (first | rw [← Ny101.out] at ho5 | (simp only [Int.reduceToNat] at ho5; rw [← Ny101.out] at ho5)); have n0_ := Aside0.mk (Kd.R_lower ho5 (below_size (by repeat (first | (with_reducible first | exact HB.out | apply below_alloc | apply pw_below_drewN | apply below_drew1) | exact HB.out)))); have n1_ := Aside0.mk (below_step (by repeat (first | (with_reducible first | exact HB.out | apply below_alloc | apply pw_below_drewN | apply below_drew1) | exact HB.out)) hb); clear HB; have HO103 := n0_; have HB := n1_; clear n0_ n1_; clear hb ho5; have hcv6 := own_string (P := Tryd.prog) Tryd.underlying63 Tryd.underlying5 Tryd.underlying9 (Kd.own_of_R HO103.out)))
          go_roundg k1
          case measure => have := HK1.out; omega
          case rel => exact ⟨(IntKind.u64.wrap (Int.tdiv x0_1 10)), ((strOfNums y101) ++ x3_1), (by first | rfl | (simp; done) | (simp [*]; done)), (by first | rfl | (simp; done) | (simp [*]; done)), H', ⟨by have := HK1.out; omega⟩, ⟨by repeat (first | (with_reducible first | exact HB.out | apply below_alloc | apply pw_below_drewN | apply below_drew1) | exact HB.out)⟩⟩
        · rw [if_neg c3] at H
          exact absurd H (by simp)
      · rw [if_neg c2] at H
        have c2b0 : decide (9 < x0_1) = false := decide_eq_false c2
        clear c2
        obtain ⟨y104, hy104⟩ : ∃ y_ : List Int, y_ = (([(IntKind.u64.wrap (48 + x0_1)) % 256] : List Int)) := ⟨_, rfl⟩
        replace H : (if (strOfNums y104).size + x3_1.size ≤ 9223372036854775807 then (some ((strOfNums y104) ++ x3_1)) else (none)) = some r := by first | (rw [hy104]; with_reducible exact H) | (have H2_ := (Option.bind_some _ _).symm.trans H; rw [hy104]; with_reducible exact H2_) | (have H2_ := (Option.bind_some _ _).symm.trans H; with_reducible exact H2_) | with_reducible exact H | (rw [hy104]; exact H) | exact H
        have Ny104 := Aside0.mk hy104
        clear hy104
        by_cases c7 : (strOfNums y104).size + x3_1.size ≤ 9223372036854775807
        · rw [if_pos c7] at H
          have c7b0 := eq_true c7
          have c7b1 : decide ((strOfNums y104).size + x3_1.size ≤ 9223372036854775807) = true := decide_eq_true c7
          try have c7b2 : (9223372036854775807 < (strOfNums y104).size + x3_1.size) = False := eq_false (Nat.not_lt.2 c7)
          obtain rfl := Option.some.inj H
          go_wp2_with (first | ((with_reducible refine gate_dst (N := 19) rfl ?_); refine Kd.R_lit (Kd.int .u8) _ 5 ?hg (N := 19) ?hd (xs := ([(IntKind.u64.wrap (48 + x0_1)) % 256] : List Int)) (inner := [.int .u8 ((IntKind.u64.wrap (48 + x0_1)) % 256)]) (ok := fun _ => True) (okp := fun _ => True) ?hr ?hp (fun _ hk => hk) trivial (Below.refl _ _) (Nat.le_refl _) (by simp) ?_; (case hd => rfl); (case hg => rfl); (case hr => first | (go_simp; done) | (go_simp; rfl)); (case hp => exact (Reps.one (show Kd.M (Kd.int .u8) _ _ _ ((IntKind.u64.wrap (48 + x0_1)) % 256) [.int .u8 ((IntKind.u64.wrap (48 + x0_1)) % 256)] from rfl) (Reps.none _ _))); intro v105 w8 ho9 hb hg_ hnew_; clear hg_ hnew_; (first | rw [← Ny104.out] at ho9 | (simp only [Int.reduceToNat] at ho9; rw [← Ny104.out] at ho9)); have n0_ := Aside0.mk (Kd.R_lower ho9 (below_size (by repeat (first | (with_reducible first | exact HB.out | apply below_alloc | apply pw_below_drewN | apply below_drew1) | exact HB.out)))); have n1_ := Aside0.mk (below_step (by repeat (first | (with_reducible first | exact HB.out | apply below_alloc | apply pw_below_drewN | apply below_drew1) | exact HB.out)) hb); clear HB; have HO106 := n0_; have HB := n1_; clear n0_ n1_; clear hb ho9; have hcv10 := own_string (P := Tryd.prog) Tryd.underlying63 Tryd.underlying5 Tryd.underlying9 (Kd.own_of_R HO106.out)))
          go_ret
          exact ⟨by first | rfl | (simp [errW_none, errW_some] <;> rfl) | (simp [*, errW_none, errW_some] <;> rfl), by repeat (first | (with_reducible first | exact HB.out | apply below_alloc | apply pw_below_drewN | apply below_drew1) | exact HB.out)⟩
        · rw [if_neg c7] at H
          exact absurd H (by simp)
def backreachref14_signed.f (k : Nat) (a0 : Int) : Option (ByteArray) := if a0 < 0 then ((backreachref04_Digits.f k (IntKind.u64.wrap ((IntKind.u64.wrap (wrap64 (-(wrap64 (a0 + 1))))) + 1))).bind fun t107 => (if 1 + t107.size ≤ 9223372036854775807 then (some ((⟨#[45]⟩ : ByteArray) ++ t107)) else (none))) else ((backreachref04_Digits.f k (IntKind.u64.wrap (a0))).bind fun t108 => (some t108))
theorem backreachref14_signed.mono : ∀ a0 k, LeO (backreachref14_signed.f k a0) (backreachref14_signed.f (k + 1) a0) := by
  intro a0 k
  unfold backreachref14_signed.f
  repeat' first
      | (with_reducible exact backreachref04_Digits.mono _ _)
      | (with_reducible exact LeO.refl _)
      | (with_reducible exact LeO.none _)
      | (with_reducible refine LeO.ite ?_ ?_)
      | (with_reducible refine LeO.bind ?_ (fun _ => ?_))
      | exact backreachref04_Digits.mono _ _
      | exact LeO.none _
      | refine LeO.ite ?_ ?_
      | refine LeO.bind ?_ (fun _ => ?_)
set_option maxHeartbeats 8000000 in
set_option maxRecDepth 100000 in
theorem backreachref14_signed.calls (k : Nat) (a0 : Int) (r : ByteArray) (w : World) (h : backreachref14_signed.f k a0 = some r) :
    Calls Tryd.prog 42 #[.int .i64 a0] w fun e w' => e = .returned (.string r) ∧ Below w.heap.size w w' := by
  have HB := Aside0.mk (Below.refl w.heap.size w)
  have H : (if a0 < 0 then ((backreachref04_Digits.f k (IntKind.u64.wrap ((IntKind.u64.wrap (wrap64 (-(wrap64 (a0 + 1))))) + 1))).bind fun t107 => (if 1 + t107.size ≤ 9223372036854775807 then (some ((⟨#[45]⟩ : ByteArray) ++ t107)) else (none))) else ((backreachref04_Digits.f k (IntKind.u64.wrap (a0))).bind fun t108 => (some t108))) = some r := h
  clear h
  by_cases c2 : a0 < 0
  · rw [if_pos c2] at H
    have c2b0 : decide (a0 < 0) = true := decide_eq_true c2
    clear c2
    replace H := Option.bind_eq_some_iff.mp H
    obtain ⟨t107, A30, H⟩ := H
    replace H : (if 1 + t107.size ≤ 9223372036854775807 then (some ((⟨#[45]⟩ : ByteArray) ++ t107)) else (none)) = some r := H
    have A3 := Aside0.mk A30
    clear A30
    by_cases c4 : 1 + t107.size ≤ 9223372036854775807
    · rw [if_pos c4] at H
      have c4b0 := eq_true c4
      have c4b1 : decide (1 + t107.size ≤ 9223372036854775807) = true := decide_eq_true c4
      try have c4b2 : (9223372036854775807 < 1 + t107.size) = False := eq_false (Nat.not_lt.2 c4)
      obtain rfl := Option.some.inj H
      go_enter Tryd.func42, Tryd.ntmps42
      go_wp2_with (first | ((with_reducible refine gate_callee (f := 56) rfl ?_); refine goesL_ (some 10) rfl rfl Tryd.func56 (by kernel_rfl) rfl #[.int .u64 (IntKind.u64.wrap ((IntKind.u64.wrap (wrap64 (-(wrap64 (a0 + 1))))) + 1))] rfl (by (try simp only [List.map_toArray, List.map_cons, List.map_nil]); first | done | rfl | (simp only [List.length_drop, List.length_take]; rfl)) ?_; (with_reducible refine (backreachref04_Digits.calls k (IntKind.u64.wrap ((IntKind.u64.wrap (wrap64 (-(wrap64 (a0 + 1))))) + 1)) t107 _ A3.out).mono ?_); rintro e w5 ⟨rfl, hb⟩; refine ⟨_, rfl, ?_⟩; have n0_ := Aside0.mk (below_step (by repeat (first | (with_reducible first | exact HB.out | apply below_alloc | apply pw_below_drewN | apply below_drew1) | exact HB.out)) hb); clear HB; have HB := n0_; clear n0_; (try clear hb); (try clear hb2); (try clear hk); (try clear hi)))
      go_ret
      exact ⟨by first | rfl | (simp [errW_none, errW_some] <;> rfl) | (simp [*, errW_none, errW_some] <;> rfl), by repeat (first | (with_reducible first | exact HB.out | apply below_alloc | apply pw_below_drewN | apply below_drew1) | exact HB.out)⟩
    · rw [if_neg c4] at H
      exact absurd H (by simp)
  · rw [if_neg c2] at H
    have c2b0 : decide (a0 < 0) = false := decide_eq_false c2
    clear c2
    replace H := Option.bind_eq_some_iff.mp H
    obtain ⟨t108, A60, H⟩ := H
    replace H : (some t108) = some r := H
    have A6 := Aside0.mk A60
    clear A60
    obtain rfl := Option.some.inj H
    go_enter Tryd.func42, Tryd.ntmps42
    go_wp2_with (first | ((with_reducible refine gate_callee (f := 56) rfl ?_); refine goesL_ (some 14) rfl rfl Tryd.func56 (by kernel_rfl) rfl #[.int .u64 (IntKind.u64.wrap (a0))] rfl (by (try simp only [List.map_toArray, List.map_cons, List.map_nil]); first | done | rfl | (simp only [List.length_drop, List.length_take]; rfl)) ?_; (with_reducible refine (backreachref04_Digits.calls k (IntKind.u64.wrap (a0)) t108 _ A6.out).mono ?_); rintro e w7 ⟨rfl, hb⟩; refine ⟨_, rfl, ?_⟩; have n0_ := Aside0.mk (below_step (by repeat (first | (with_reducible first | exact HB.out | apply below_alloc | apply pw_below_drewN | apply below_drew1) | exact HB.out)) hb); clear HB; have HB := n0_; clear n0_; (try clear hb); (try clear hb2); (try clear hk); (try clear hi)))
    go_ret
    exact ⟨by first | rfl | (simp [errW_none, errW_some] <;> rfl) | (simp [*, errW_none, errW_some] <;> rfl), by repeat (first | (with_reducible first | exact HB.out | apply below_alloc | apply pw_below_drewN | apply below_drew1) | exact HB.out)⟩
mutual
def backreachref14_Print.l0 : Nat → List (List Int) → ByteArray → Int → Option (ByteArray × Int)
  | 0, _, _, _ => none
  | k + 1, x0, x4, x5 => if x5 < (x0.length : Int) then (backreachref14_Print.l1 k x0 x4 x5 0) else (some (x4, 0))
def backreachref14_Print.l1 : Nat → List (List Int) → ByteArray → Int → Int → Option (ByteArray × Int)
  | 0, _, _, _, _ => none
  | k + 1, x0, x4, x5, x6 => if 0 ≤ x5 then (if x5 < (x0.length : Int) then (if x6 < ((rd_L1 x0 x5).length : Int) then (if 0 ≤ x6 then ((backreachref14_signed.f k (rd (rd_L1 x0 x5) x6)).bind fun t116 => (if x4.size + t116.size ≤ 9223372036854775807 then (if (x4 ++ t116).size + 1 ≤ 9223372036854775807 then (backreachref14_Print.l1 k x0 ((x4 ++ t116) ++ (⟨#[32]⟩ : ByteArray)) x5 (wrap64 (x6 + 1))) else (none)) else (none))) else (none)) else (if x4.size + 2 ≤ 9223372036854775807 then (backreachref14_Print.l0 k x0 (x4 ++ (⟨#[48, 10]⟩ : ByteArray)) (wrap64 (x5 + 1))) else (none))) else (none)) else (none)
end
def backreachref14_Print.f (k : Nat) (l0 : List (List Int)) : Option (ByteArray × Int) := (backreachref14_Right.f k l0).bind fun t109 => (if t109 = true then ((backreachref14_Most.f k l0).bind fun t110 => ((backreachref14_signed.f k t110).bind fun t111 => (if 6 + t111.size ≤ 9223372036854775807 then (if ((⟨#[112, 32, 99, 110, 102, 32]⟩ : ByteArray) ++ t111).size + 1 ≤ 9223372036854775807 then ((backreachref14_signed.f k (l0.length : Int)).bind fun t112 => (if (((⟨#[112, 32, 99, 110, 102, 32]⟩ : ByteArray) ++ t111) ++ (⟨#[32]⟩ : ByteArray)).size + t112.size ≤ 9223372036854775807 then (if ((((⟨#[112, 32, 99, 110, 102, 32]⟩ : ByteArray) ++ t111) ++ (⟨#[32]⟩ : ByteArray)) ++ t112).size + 1 ≤ 9223372036854775807 then (backreachref14_Print.l0 k l0 (((((⟨#[112, 32, 99, 110, 102, 32]⟩ : ByteArray) ++ t111) ++ (⟨#[32]⟩ : ByteArray)) ++ t112) ++ (⟨#[10]⟩ : ByteArray)) 0) else (none)) else (none))) else (none)) else (none)))) else (some ((⟨#[]⟩ : ByteArray), 3)))
theorem backreachref14_Print.mono_l : ∀ k, (∀ y0 y1 y2, LeO (backreachref14_Print.l0 k y0 y1 y2) (backreachref14_Print.l0 (k + 1) y0 y1 y2)) ∧ (∀ y0 y1 y2 y3, LeO (backreachref14_Print.l1 k y0 y1 y2 y3) (backreachref14_Print.l1 (k + 1) y0 y1 y2 y3))
  | 0 => ⟨fun _ _ _ r h => by simp [backreachref14_Print.l0] at h, fun _ _ _ _ r h => by simp [backreachref14_Print.l1] at h⟩
  | k + 1 => by
    obtain ⟨ih0, ih1⟩ := backreachref14_Print.mono_l k
    refine ⟨?_, ?_⟩
    · intro y0 y1 y2
      unfold backreachref14_Print.l0
      repeat' first
      | (with_reducible exact ih0 _ _ _)
      | (with_reducible exact ih1 _ _ _ _)
      | (with_reducible exact backreachref14_Most.mono _ _)
      | (with_reducible exact backreachref14_Right.mono _ _)
      | (with_reducible exact backreachref14_signed.mono _ _)
      | (with_reducible exact LeO.refl _)
      | (with_reducible exact LeO.none _)
      | (with_reducible refine LeO.ite ?_ ?_)
      | (with_reducible refine LeO.bind ?_ (fun _ => ?_))
      | exact ih0 _ _ _
      | exact ih1 _ _ _ _
      | exact backreachref14_Most.mono _ _
      | exact backreachref14_Right.mono _ _
      | exact backreachref14_signed.mono _ _
      | exact LeO.none _
      | refine LeO.ite ?_ ?_
      | refine LeO.bind ?_ (fun _ => ?_)
    · intro y0 y1 y2 y3
      unfold backreachref14_Print.l1
      repeat' first
      | (with_reducible exact ih0 _ _ _)
      | (with_reducible exact ih1 _ _ _ _)
      | (with_reducible exact backreachref14_Most.mono _ _)
      | (with_reducible exact backreachref14_Right.mono _ _)
      | (with_reducible exact backreachref14_signed.mono _ _)
      | (with_reducible exact LeO.refl _)
      | (with_reducible exact LeO.none _)
      | (with_reducible refine LeO.ite ?_ ?_)
      | (with_reducible refine LeO.bind ?_ (fun _ => ?_))
      | exact ih0 _ _ _
      | exact ih1 _ _ _ _
      | exact backreachref14_Most.mono _ _
      | exact backreachref14_Right.mono _ _
      | exact backreachref14_signed.mono _ _
      | exact LeO.none _
      | refine LeO.ite ?_ ?_
      | refine LeO.bind ?_ (fun _ => ?_)
theorem backreachref14_Print.mono : ∀ a0 k, LeO (backreachref14_Print.f k a0) (backreachref14_Print.f (k + 1) a0) := by
  intro a0 k
  obtain ⟨ih0, ih1⟩ := backreachref14_Print.mono_l k
  unfold backreachref14_Print.f
  repeat' first
      | (with_reducible exact ih0 _ _ _)
      | (with_reducible exact ih1 _ _ _ _)
      | (with_reducible exact backreachref14_Most.mono _ _)
      | (with_reducible exact backreachref14_Right.mono _ _)
      | (with_reducible exact backreachref14_signed.mono _ _)
      | (with_reducible exact LeO.refl _)
      | (with_reducible exact LeO.none _)
      | (with_reducible refine LeO.ite ?_ ?_)
      | (with_reducible refine LeO.bind ?_ (fun _ => ?_))
      | exact ih0 _ _ _
      | exact ih1 _ _ _ _
      | exact backreachref14_Most.mono _ _
      | exact backreachref14_Right.mono _ _
      | exact backreachref14_signed.mono _ _
      | exact LeO.none _
      | refine LeO.ite ?_ ?_
      | refine LeO.bind ?_ (fun _ => ?_)
set_option maxHeartbeats 8000000 in
set_option maxRecDepth 100000 in
theorem backreachref14_Print.calls (k : Nat) (A0 : Option Addr) (c0 : Nat) (l0 : List (List Int)) (r1 : ByteArray) (r2 : Int) (w : World) (hr0 : Kd.C (Kd.slice 3 (Kd.int .i64)) w A0 l0.length l0) (hc0 : l0.length ≤ c0) (h : backreachref14_Print.f k l0 = some (r1, r2)) :
    Calls Tryd.prog 20 #[.slice A0 l0.length c0] w fun e w' => e = .returned (.tuple #[.string r1, .int .i64 r2]) ∧ Below w.heap.size w w' := by
  have HR0 := Aside0.mk hr0
  have HC0 := Aside0.mk hc0
  clear hr0 hc0
  have HB := Aside0.mk (Below.refl w.heap.size w)
  have H : ((backreachref14_Right.f k l0).bind fun t109 => (if t109 = true then ((backreachref14_Most.f k l0).bind fun t110 => ((backreachref14_signed.f k t110).bind fun t111 => (if 6 + t111.size ≤ 9223372036854775807 then (if ((⟨#[112, 32, 99, 110, 102, 32]⟩ : ByteArray) ++ t111).size + 1 ≤ 9223372036854775807 then ((backreachref14_signed.f k (l0.length : Int)).bind fun t112 => (if (((⟨#[112, 32, 99, 110, 102, 32]⟩ : ByteArray) ++ t111) ++ (⟨#[32]⟩ : ByteArray)).size + t112.size ≤ 9223372036854775807 then (if ((((⟨#[112, 32, 99, 110, 102, 32]⟩ : ByteArray) ++ t111) ++ (⟨#[32]⟩ : ByteArray)) ++ t112).size + 1 ≤ 9223372036854775807 then (backreachref14_Print.l0 k l0 (((((⟨#[112, 32, 99, 110, 102, 32]⟩ : ByteArray) ++ t111) ++ (⟨#[32]⟩ : ByteArray)) ++ t112) ++ (⟨#[10]⟩ : ByteArray)) 0) else (none)) else (none))) else (none)) else (none)))) else (some ((⟨#[]⟩ : ByteArray), 3)))) = some (r1, r2) := h
  clear h
  replace H := Option.bind_eq_some_iff.mp H
  obtain ⟨t109, A20, H⟩ := H
  replace H : (if t109 = true then ((backreachref14_Most.f k l0).bind fun t110 => ((backreachref14_signed.f k t110).bind fun t111 => (if 6 + t111.size ≤ 9223372036854775807 then (if ((⟨#[112, 32, 99, 110, 102, 32]⟩ : ByteArray) ++ t111).size + 1 ≤ 9223372036854775807 then ((backreachref14_signed.f k (l0.length : Int)).bind fun t112 => (if (((⟨#[112, 32, 99, 110, 102, 32]⟩ : ByteArray) ++ t111) ++ (⟨#[32]⟩ : ByteArray)).size + t112.size ≤ 9223372036854775807 then (if ((((⟨#[112, 32, 99, 110, 102, 32]⟩ : ByteArray) ++ t111) ++ (⟨#[32]⟩ : ByteArray)) ++ t112).size + 1 ≤ 9223372036854775807 then (backreachref14_Print.l0 k l0 (((((⟨#[112, 32, 99, 110, 102, 32]⟩ : ByteArray) ++ t111) ++ (⟨#[32]⟩ : ByteArray)) ++ t112) ++ (⟨#[10]⟩ : ByteArray)) 0) else (none)) else (none))) else (none)) else (none)))) else (some ((⟨#[]⟩ : ByteArray), 3))) = some (r1, r2) := H
  have A2 := Aside0.mk A20
  clear A20
  by_cases c3 : t109 = true
  · subst c3
    have H1 : ((backreachref14_Most.f k l0).bind fun t110 => ((backreachref14_signed.f k t110).bind fun t111 => (if 6 + t111.size ≤ 9223372036854775807 then (if ((⟨#[112, 32, 99, 110, 102, 32]⟩ : ByteArray) ++ t111).size + 1 ≤ 9223372036854775807 then ((backreachref14_signed.f k (l0.length : Int)).bind fun t112 => (if (((⟨#[112, 32, 99, 110, 102, 32]⟩ : ByteArray) ++ t111) ++ (⟨#[32]⟩ : ByteArray)).size + t112.size ≤ 9223372036854775807 then (if ((((⟨#[112, 32, 99, 110, 102, 32]⟩ : ByteArray) ++ t111) ++ (⟨#[32]⟩ : ByteArray)) ++ t112).size + 1 ≤ 9223372036854775807 then (backreachref14_Print.l0 k l0 (((((⟨#[112, 32, 99, 110, 102, 32]⟩ : ByteArray) ++ t111) ++ (⟨#[32]⟩ : ByteArray)) ++ t112) ++ (⟨#[10]⟩ : ByteArray)) 0) else (none)) else (none))) else (none)) else (none)))) = some (r1, r2) := by rw [if_pos rfl] at H; exact H
    clear H
    have H := H1
    clear H1
    replace H := Option.bind_eq_some_iff.mp H
    obtain ⟨t110, A40, H⟩ := H
    replace H : ((backreachref14_signed.f k t110).bind fun t111 => (if 6 + t111.size ≤ 9223372036854775807 then (if ((⟨#[112, 32, 99, 110, 102, 32]⟩ : ByteArray) ++ t111).size + 1 ≤ 9223372036854775807 then ((backreachref14_signed.f k (l0.length : Int)).bind fun t112 => (if (((⟨#[112, 32, 99, 110, 102, 32]⟩ : ByteArray) ++ t111) ++ (⟨#[32]⟩ : ByteArray)).size + t112.size ≤ 9223372036854775807 then (if ((((⟨#[112, 32, 99, 110, 102, 32]⟩ : ByteArray) ++ t111) ++ (⟨#[32]⟩ : ByteArray)) ++ t112).size + 1 ≤ 9223372036854775807 then (backreachref14_Print.l0 k l0 (((((⟨#[112, 32, 99, 110, 102, 32]⟩ : ByteArray) ++ t111) ++ (⟨#[32]⟩ : ByteArray)) ++ t112) ++ (⟨#[10]⟩ : ByteArray)) 0) else (none)) else (none))) else (none)) else (none))) = some (r1, r2) := H
    have A4 := Aside0.mk A40
    clear A40
    replace H := Option.bind_eq_some_iff.mp H
    obtain ⟨t111, A50, H⟩ := H
    replace H : (if 6 + t111.size ≤ 9223372036854775807 then (if ((⟨#[112, 32, 99, 110, 102, 32]⟩ : ByteArray) ++ t111).size + 1 ≤ 9223372036854775807 then ((backreachref14_signed.f k (l0.length : Int)).bind fun t112 => (if (((⟨#[112, 32, 99, 110, 102, 32]⟩ : ByteArray) ++ t111) ++ (⟨#[32]⟩ : ByteArray)).size + t112.size ≤ 9223372036854775807 then (if ((((⟨#[112, 32, 99, 110, 102, 32]⟩ : ByteArray) ++ t111) ++ (⟨#[32]⟩ : ByteArray)) ++ t112).size + 1 ≤ 9223372036854775807 then (backreachref14_Print.l0 k l0 (((((⟨#[112, 32, 99, 110, 102, 32]⟩ : ByteArray) ++ t111) ++ (⟨#[32]⟩ : ByteArray)) ++ t112) ++ (⟨#[10]⟩ : ByteArray)) 0) else (none)) else (none))) else (none)) else (none)) = some (r1, r2) := H
    have A5 := Aside0.mk A50
    clear A50
    by_cases c6 : 6 + t111.size ≤ 9223372036854775807
    · rw [if_pos c6] at H
      have c6b0 := eq_true c6
      have c6b1 : decide (6 + t111.size ≤ 9223372036854775807) = true := decide_eq_true c6
      try have c6b2 : (9223372036854775807 < 6 + t111.size) = False := eq_false (Nat.not_lt.2 c6)
      by_cases c7 : ((⟨#[112, 32, 99, 110, 102, 32]⟩ : ByteArray) ++ t111).size + 1 ≤ 9223372036854775807
      · rw [if_pos c7] at H
        have c7n : 6 + t111.size + 1 ≤ 9223372036854775807 := by
          have h := c7
          simp [ByteArray.size_append] at h ⊢
          first | done | exact h | omega
        have c7m : (9223372036854775807 < 6 + t111.size + 1) = False := eq_false (Nat.not_lt.2 c7n)
        have c7b0 := eq_true c7
        have c7b1 : decide (((⟨#[112, 32, 99, 110, 102, 32]⟩ : ByteArray) ++ t111).size + 1 ≤ 9223372036854775807) = true := decide_eq_true c7
        try have c7b2 : (9223372036854775807 < ((⟨#[112, 32, 99, 110, 102, 32]⟩ : ByteArray) ++ t111).size + 1) = False := eq_false (Nat.not_lt.2 c7)
        replace H := Option.bind_eq_some_iff.mp H
        obtain ⟨t112, A80, H⟩ := H
        replace H : (if (((⟨#[112, 32, 99, 110, 102, 32]⟩ : ByteArray) ++ t111) ++ (⟨#[32]⟩ : ByteArray)).size + t112.size ≤ 9223372036854775807 then (if ((((⟨#[112, 32, 99, 110, 102, 32]⟩ : ByteArray) ++ t111) ++ (⟨#[32]⟩ : ByteArray)) ++ t112).size + 1 ≤ 9223372036854775807 then (backreachref14_Print.l0 k l0 (((((⟨#[112, 32, 99, 110, 102, 32]⟩ : ByteArray) ++ t111) ++ (⟨#[32]⟩ : ByteArray)) ++ t112) ++ (⟨#[10]⟩ : ByteArray)) 0) else (none)) else (none)) = some (r1, r2) := H
        have A8 := Aside0.mk A80
        clear A80
        by_cases c9 : (((⟨#[112, 32, 99, 110, 102, 32]⟩ : ByteArray) ++ t111) ++ (⟨#[32]⟩ : ByteArray)).size + t112.size ≤ 9223372036854775807
        · rw [if_pos c9] at H
          have c9n : 6 + t111.size + 1 + t112.size ≤ 9223372036854775807 := by
            have h := c9
            simp [ByteArray.size_append] at h ⊢
            first | done | exact h | omega
          have c9m : (9223372036854775807 < 6 + t111.size + 1 + t112.size) = False := eq_false (Nat.not_lt.2 c9n)
          have c9b0 := eq_true c9
          have c9b1 : decide ((((⟨#[112, 32, 99, 110, 102, 32]⟩ : ByteArray) ++ t111) ++ (⟨#[32]⟩ : ByteArray)).size + t112.size ≤ 9223372036854775807) = true := decide_eq_true c9
          try have c9b2 : (9223372036854775807 < (((⟨#[112, 32, 99, 110, 102, 32]⟩ : ByteArray) ++ t111) ++ (⟨#[32]⟩ : ByteArray)).size + t112.size) = False := eq_false (Nat.not_lt.2 c9)
          by_cases c10 : ((((⟨#[112, 32, 99, 110, 102, 32]⟩ : ByteArray) ++ t111) ++ (⟨#[32]⟩ : ByteArray)) ++ t112).size + 1 ≤ 9223372036854775807
          · rw [if_pos c10] at H
            have c10n : 6 + t111.size + 1 + t112.size + 1 ≤ 9223372036854775807 := by
              have h := c10
              simp [ByteArray.size_append] at h ⊢
              first | done | exact h | omega
            have c10m : (9223372036854775807 < 6 + t111.size + 1 + t112.size + 1) = False := eq_false (Nat.not_lt.2 c10n)
            have c10b0 := eq_true c10
            have c10b1 : decide (((((⟨#[112, 32, 99, 110, 102, 32]⟩ : ByteArray) ++ t111) ++ (⟨#[32]⟩ : ByteArray)) ++ t112).size + 1 ≤ 9223372036854775807) = true := decide_eq_true c10
            try have c10b2 : (9223372036854775807 < ((((⟨#[112, 32, 99, 110, 102, 32]⟩ : ByteArray) ++ t111) ++ (⟨#[32]⟩ : ByteArray)) ++ t112).size + 1) = False := eq_false (Nat.not_lt.2 c10)
            have H' := Aside0.mk H
            clear H
            go_enter Tryd.func20, Tryd.ntmps20
            go_wp2_with (first | ((with_reducible refine gate_callee (f := 21) rfl ?_); refine goesL_ (some 8) rfl rfl Tryd.func21 (by kernel_rfl) rfl #[.slice A0 l0.length c0] rfl (by (try simp only [List.map_toArray, List.map_cons, List.map_nil]); first | done | rfl | (simp only [List.length_drop, List.length_take]; rfl)) ?_; (with_reducible refine (backreachref14_Right.calls k _ _ l0 true _ ?side1 ?side2 A2.out).mono ?_); (case side1 => repeat (first | exact HR0.out | (with_reducible refine Kd.C_alloc ?_ _) | (with_reducible refine Kd.C_drewN ?_ _) | (with_reducible refine Kd.C_drew ?_))); (case side2 => exact HC0.out); rintro e w' ⟨rfl, ⟨nd, rfl⟩⟩; refine ⟨_, rfl, ?_⟩) | ((with_reducible refine gate_callee (f := 25) rfl ?_); refine goesL_ (some 11) rfl rfl Tryd.func25 (by kernel_rfl) rfl #[.slice A0 l0.length c0] rfl (by (try simp only [List.map_toArray, List.map_cons, List.map_nil]); first | done | rfl | (simp only [List.length_drop, List.length_take]; rfl)) ?_; (with_reducible refine (backreachref14_Most.calls k _ _ l0 t110 _ ?side1 ?side2 A4.out).mono ?_); (case side1 => repeat (first | exact HR0.out | (with_reducible refine Kd.C_alloc ?_ _) | (with_reducible refine Kd.C_drewN ?_ _) | (with_reducible refine Kd.C_drew ?_))); (case side2 => exact HC0.out); rintro e w' ⟨rfl, ⟨nd, rfl⟩⟩; refine ⟨_, rfl, ?_⟩) | ((with_reducible refine gate_callee (f := 42) rfl ?_); refine goesL_ (some 12) rfl rfl Tryd.func42 (by kernel_rfl) rfl #[.int .i64 t110] rfl (by (try simp only [List.map_toArray, List.map_cons, List.map_nil]); first | done | rfl | (simp only [List.length_drop, List.length_take]; rfl)) ?_; (with_reducible refine (backreachref14_signed.calls k t110 t111 _ A5.out).mono ?_); rintro e w11 ⟨rfl, hb⟩; refine ⟨_, rfl, ?_⟩; have n0_ := Aside0.mk (below_step (by repeat (first | (with_reducible first | exact HB.out | apply below_alloc | apply pw_below_drewN | apply below_drew1) | exact HB.out)) hb); clear HB; have HB := n0_; clear n0_; (try clear hb); (try clear hb2); (try clear hk); (try clear hi)) | ((with_reducible refine gate_callee (f := 42) rfl ?_); refine goesL_ (some 17) rfl rfl Tryd.func42 (by kernel_rfl) rfl #[.int .i64 (l0.length : Int)] rfl (by (try simp only [List.map_toArray, List.map_cons, List.map_nil]); first | done | rfl | (simp only [List.length_drop, List.length_take]; rfl)) ?_; (with_reducible refine (backreachref14_signed.calls k (l0.length : Int) t112 _ A8.out).mono ?_); rintro e w12 ⟨rfl, hb⟩; refine ⟨_, rfl, ?_⟩; have n0_ := Aside0.mk (below_step (by repeat (first | (with_reducible first | exact HB.out | apply below_alloc | apply pw_below_drewN | apply below_drew1) | exact HB.out)) hb); clear HB; have HB := n0_; clear n0_; (try clear hb); (try clear hb2); (try clear hk); (try clear hi)))
            go_loopg [4, 5] k (fun kq v4 v5 w' => ∃ (x4_1 : ByteArray) (x5_1 : Int), v4 = .string x4_1 ∧ v5 = .int .i64 x5_1 ∧ Aside0 (backreachref14_Print.l0 kq l0 x4_1 x5_1 = some (r1, r2)) ∧ Aside0 (kq ≤ k) ∧ Aside0 (Below w.heap.size w w'))
            case atStart => exact ⟨(((((⟨#[112, 32, 99, 110, 102, 32]⟩ : ByteArray) ++ t111) ++ (⟨#[32]⟩ : ByteArray)) ++ t112) ++ (⟨#[10]⟩ : ByteArray)), (0), (by first | rfl | (simp; done) | (simp [*]; done)), (by first | rfl | (simp; done) | (simp [*]; done)), H', ⟨Nat.le_refl _⟩, ⟨by repeat (first | (with_reducible first | exact HB.out | apply below_alloc | apply pw_below_drewN | apply below_drew1) | exact HB.out)⟩⟩
            case round =>
              clear H'
              try clear c1
              try clear c2
              try clear p2
              try clear c3
              try clear c4
              try clear c6
              try clear c6b0
              try clear c6b1
              try clear c6b2
              try clear c7
              try clear c7b0
              try clear c7b1
              try clear c7b2
              try clear c9
              try clear c9b0
              try clear c9b1
              try clear c9b2
              try clear c10
              try clear c10b0
              try clear c10b1
              try clear c10b2
              obtain ⟨x4_1, x5_1, rfl, rfl, HA, HK1, HB⟩ := hrel
              cases gk with
              | zero => exact absurd HA.out (by simp [backreachref14_Print.l0])
              | succ k1 =>
                have H := HA.out
                clear HA
                simp only [backreachref14_Print.l0] at H
                by_cases c13 : x5_1 < (l0.length : Int)
                · rw [if_pos c13] at H
                  have c13b0 : decide (x5_1 < (l0.length : Int)) = true := decide_eq_true c13
                  clear c13
                  have H' := Aside0.mk H
                  clear H
                  go_wp2
                  go_loopg [4, 6] k1 (fun kq v4 v6 w' => ∃ (x4_2 : ByteArray) (x6_2 : Int), v4 = .string x4_2 ∧ v6 = .int .i64 x6_2 ∧ Aside0 (backreachref14_Print.l1 kq l0 x4_2 x5_1 x6_2 = some (r1, r2)) ∧ Aside0 (kq ≤ k1) ∧ Aside0 (Below w.heap.size w w'))
                  case atStart => exact ⟨(x4_1), (0), (by first | rfl | (simp; done) | (simp [*]; done)), (by first | rfl | (simp; done) | (simp [*]; done)), H', ⟨Nat.le_refl _⟩, ⟨by repeat (first | (with_reducible first | exact HB.out | apply below_alloc | apply pw_below_drewN | apply below_drew1) | exact HB.out)⟩⟩
                  case round =>
                    clear H'
                    try clear c1
                    try clear c2
                    try clear p2
                    try clear c3
                    try clear c4
                    try clear c6
                    try clear c6b0
                    try clear c6b1
                    try clear c6b2
                    try clear c7
                    try clear c7b0
                    try clear c7b1
                    try clear c7b2
                    try clear c9
                    try clear c9b0
                    try clear c9b1
                    try clear c9b2
                    try clear c10
                    try clear c10b0
                    try clear c10b1
                    try clear c10b2
                    try clear c13
                    try clear c13b0
                    try clear p2
                    obtain ⟨x4_2, x6_2, rfl, rfl, HA, HK2, HB⟩ := hrel
                    cases gk with
                    | zero => exact absurd HA.out (by simp [backreachref14_Print.l1])
                    | succ k2 =>
                      have H := HA.out
                      clear HA
                      simp only [backreachref14_Print.l1] at H
                      by_cases c14 : 0 ≤ x5_1
                      · rw [if_pos c14] at H
                        have c14b0 : decide (0 ≤ x5_1) = true := decide_eq_true c14
                        clear c14
                        by_cases c15 : x5_1 < (l0.length : Int)
                        · rw [if_pos c15] at H
                          have c15b0 : decide (x5_1 < (l0.length : Int)) = true := decide_eq_true c15
                          clear c15
                          by_cases c16 : x6_2 < ((rd_L1 l0 x5_1).length : Int)
                          · rw [if_pos c16] at H
                            have c16b0 : decide (x6_2 < ((rd_L1 l0 x5_1).length : Int)) = true := decide_eq_true c16
                            clear c16
                            by_cases c17 : 0 ≤ x6_2
                            · rw [if_pos c17] at H
                              have c17b0 : decide (0 ≤ x6_2) = true := decide_eq_true c17
                              clear c17
                              replace H := Option.bind_eq_some_iff.mp H
                              obtain ⟨t116, A180, H⟩ := H
                              replace H : (if x4_2.size + t116.size ≤ 9223372036854775807 then (if (x4_2 ++ t116).size + 1 ≤ 9223372036854775807 then (backreachref14_Print.l1 k2 l0 ((x4_2 ++ t116) ++ (⟨#[32]⟩ : ByteArray)) x5_1 (wrap64 (x6_2 + 1))) else (none)) else (none)) = some (r1, r2) := H
                              have A18 := Aside0.mk A180
                              clear A180
                              by_cases c19 : x4_2.size + t116.size ≤ 9223372036854775807
                              · rw [if_pos c19] at H
                                have c19b0 := eq_true c19
                                have c19b1 : decide (x4_2.size + t116.size ≤ 9223372036854775807) = true := decide_eq_true c19
                                try have c19b2 : (9223372036854775807 < x4_2.size + t116.size) = False := eq_false (Nat.not_lt.2 c19)
                                by_cases c20 : (x4_2 ++ t116).size + 1 ≤ 9223372036854775807
                                · rw [if_pos c20] at H
                                  have c20n : x4_2.size + t116.size + 1 ≤ 9223372036854775807 := by
                                    have h := c20
                                    simp [ByteArray.size_append] at h ⊢
                                    first | done | exact h | omega
                                  have c20m : (9223372036854775807 < x4_2.size + t116.size + 1) = False := eq_false (Nat.not_lt.2 c20n)
                                  have c20b0 := eq_true c20
                                  have c20b1 : decide ((x4_2 ++ t116).size + 1 ≤ 9223372036854775807) = true := decide_eq_true c20
                                  try have c20b2 : (9223372036854775807 < (x4_2 ++ t116).size + 1) = False := eq_false (Nat.not_lt.2 c20)
                                  have H' := Aside0.mk H
                                  clear H
                                  have p113 : 0 ≤ (x5_1 : Int) := of_decide_eq_true (by first | (with_reducible assumption) | assumption)
                                  have q113 : x5_1 < (l0.length : Int) := of_decide_eq_true (by first | (with_reducible assumption) | assumption)
                                  obtain ⟨ad113, A113_0, c113_0, e113, hx113_0, hl113_0, hi113_0⟩ := at_L1 HR0.out x5_1 p113 q113
                                  cases e113
                                  replace hx113_0 := (HB.out.cell (World.block_lt_of_cell? w _ hx113_0)).trans hx113_0
                                  have HR113_0 := Aside0.mk hi113_0
                                  have HC113_0 := Aside0.mk hl113_0
                                  clear hi113_0 hl113_0
                                  replace p113 := eq_true p113
                                  replace q113 := eq_true q113
                                  have p114 : 0 ≤ (x5_1 : Int) := of_decide_eq_true (by first | (with_reducible assumption) | assumption)
                                  have q114 : x5_1 < (l0.length : Int) := of_decide_eq_true (by first | (with_reducible assumption) | assumption)
                                  obtain ⟨ad114, A114_0, c114_0, e114, hx114_0, hl114_0, hi114_0⟩ := at_L1 HR0.out x5_1 p114 q114
                                  obtain rfl : ad113 = ad114 := (by injection e114)
                                  replace hx114_0 := (HB.out.cell (World.block_lt_of_cell? w _ hx114_0)).trans hx114_0
                                  have HR114_0 := Aside0.mk hi114_0
                                  have HC114_0 := Aside0.mk hl114_0
                                  clear hi114_0 hl114_0
                                  replace p114 := eq_true p114
                                  replace q114 := eq_true q114
                                  have ea_ := Option.some.inj (hx113_0.symm.trans hx114_0)
                                  injection ea_ with ea_ en_ ec_
                                  subst ea_
                                  subst ec_
                                  clear en_
                                  have p115 : 0 ≤ (x6_2 : Int) := of_decide_eq_true (by first | (with_reducible assumption) | assumption)
                                  have q115 : x6_2 < ((rd_L1 l0 x5_1).length : Int) := of_decide_eq_true (by first | (with_reducible assumption) | assumption)
                                  obtain ⟨ad115, e115, hx115_0⟩ := Kd.at_int HR114_0.out x6_2 p115 q115
                                  cases e115
                                  replace hx115_0 := (HB.out.cell (World.block_lt_of_cell? w _ hx115_0)).trans hx115_0
                                  replace p115 := eq_true p115
                                  replace q115 := eq_true q115
                                  go_wp2_with (first | ((with_reducible refine gate_callee (f := 42) rfl ?_); refine goesL_ (some 43) rfl rfl Tryd.func42 (by kernel_rfl) rfl #[.int .i64 (rd (rd_L1 l0 x5_1) x6_2)] rfl (by (try simp only [List.map_toArray, List.map_cons, List.map_nil]); first | done | rfl | (simp only [List.length_drop, List.length_take]; rfl)) ?_; (with_reducible refine (backreachref14_signed.calls k2 (rd (rd_L1 l0 x5_1) x6_2) t116 _ A18.out).mono ?_); rintro e w21 ⟨rfl, hb⟩; refine ⟨_, rfl, ?_⟩; have n0_ := Aside0.mk (below_step (by repeat (first | (with_reducible first | exact HB.out | apply below_alloc | apply pw_below_drewN | apply below_drew1) | exact HB.out)) hb); clear HB; have HB := n0_; clear n0_; (try clear hb); (try clear hb2); (try clear hk); (try clear hi)))
                                  go_roundg k2
                                  case measure => have := HK1.out; have := HK2.out; omega
                                  case rel => exact ⟨((x4_2 ++ t116) ++ (⟨#[32]⟩ : ByteArray)), (wrap64 (x6_2 + 1)), (by first | rfl | (simp; done) | (simp [*]; done)), (by first | rfl | (simp; done) | (simp [*]; done)), H', ⟨by have := HK1.out; have := HK2.out; omega⟩, ⟨by repeat (first | (with_reducible first | exact HB.out | apply below_alloc | apply pw_below_drewN | apply below_drew1) | exact HB.out)⟩⟩
                                · rw [if_neg c20] at H
                                  exact absurd H (by simp)
                              · rw [if_neg c19] at H
                                exact absurd H (by simp)
                            · rw [if_neg c17] at H
                              exact absurd H (by simp)
                          · rw [if_neg c16] at H
                            have c16b0 : decide (x6_2 < ((rd_L1 l0 x5_1).length : Int)) = false := decide_eq_false c16
                            clear c16
                            by_cases c22 : x4_2.size + 2 ≤ 9223372036854775807
                            · rw [if_pos c22] at H
                              have c22b0 := eq_true c22
                              have c22b1 : decide (x4_2.size + 2 ≤ 9223372036854775807) = true := decide_eq_true c22
                              try have c22b2 : (9223372036854775807 < x4_2.size + 2) = False := eq_false (Nat.not_lt.2 c22)
                              have H' := Aside0.mk H
                              clear H
                              have p113 : 0 ≤ (x5_1 : Int) := of_decide_eq_true (by first | (with_reducible assumption) | assumption)
                              have q113 : x5_1 < (l0.length : Int) := of_decide_eq_true (by first | (with_reducible assumption) | assumption)
                              obtain ⟨ad113, A113_0, c113_0, e113, hx113_0, hl113_0, hi113_0⟩ := at_L1 HR0.out x5_1 p113 q113
                              cases e113
                              replace hx113_0 := (HB.out.cell (World.block_lt_of_cell? w _ hx113_0)).trans hx113_0
                              have HR113_0 := Aside0.mk hi113_0
                              have HC113_0 := Aside0.mk hl113_0
                              clear hi113_0 hl113_0
                              replace p113 := eq_true p113
                              replace q113 := eq_true q113
                              go_wp2
                              go_roundg k2
                              case measure => have := HK1.out; have := HK2.out; omega
                              case rel => exact ⟨(x4_2 ++ (⟨#[48, 10]⟩ : ByteArray)), (wrap64 (x5_1 + 1)), (by first | rfl | (simp; done) | (simp [*]; done)), (by first | rfl | (simp; done) | (simp [*]; done)), H', ⟨by have := HK1.out; have := HK2.out; omega⟩, ⟨by repeat (first | (with_reducible first | exact HB.out | apply below_alloc | apply pw_below_drewN | apply below_drew1) | exact HB.out)⟩⟩
                            · rw [if_neg c22] at H
                              exact absurd H (by simp)
                        · rw [if_neg c15] at H
                          exact absurd H (by simp)
                      · rw [if_neg c14] at H
                        exact absurd H (by simp)
                · rw [if_neg c13] at H
                  have c13b0 : decide (x5_1 < (l0.length : Int)) = false := decide_eq_false c13
                  clear c13
                  simp only [Option.some.injEq, Prod.mk.injEq] at H
                  obtain ⟨rfl, rfl⟩ := H
                  go_wp2
                  go_ret2
                  exact ⟨by first | rfl | (simp [errW_none, errW_some] <;> rfl) | (simp [*, errW_none, errW_some] <;> rfl), by repeat (first | (with_reducible first | exact HB.out | apply below_alloc | apply pw_below_drewN | apply below_drew1) | exact HB.out)⟩
          · rw [if_neg c10] at H
            exact absurd H (by simp)
        · rw [if_neg c9] at H
          exact absurd H (by simp)
      · rw [if_neg c7] at H
        exact absurd H (by simp)
    · rw [if_neg c6] at H
      exact absurd H (by simp)
  · replace c3 := Bool.eq_false_iff.mpr c3
    subst c3
    have H1 : (some ((⟨#[]⟩ : ByteArray), 3)) = some (r1, r2) := by rw [if_neg (show ¬ (false = true) by decide)] at H; exact H
    clear H
    have H := H1
    clear H1
    simp only [Option.some.injEq, Prod.mk.injEq] at H
    obtain ⟨rfl, rfl⟩ := H
    go_enter Tryd.func20, Tryd.ntmps20
    go_wp2_with (first | ((with_reducible refine gate_callee (f := 21) rfl ?_); refine goesL_ (some 8) rfl rfl Tryd.func21 (by kernel_rfl) rfl #[.slice A0 l0.length c0] rfl (by (try simp only [List.map_toArray, List.map_cons, List.map_nil]); first | done | rfl | (simp only [List.length_drop, List.length_take]; rfl)) ?_; (with_reducible refine (backreachref14_Right.calls k _ _ l0 false _ ?side1 ?side2 A2.out).mono ?_); (case side1 => repeat (first | exact HR0.out | (with_reducible refine Kd.C_alloc ?_ _) | (with_reducible refine Kd.C_drewN ?_ _) | (with_reducible refine Kd.C_drew ?_))); (case side2 => exact HC0.out); rintro e w' ⟨rfl, ⟨nd, rfl⟩⟩; refine ⟨_, rfl, ?_⟩))
    go_ret2
    exact ⟨by first | rfl | (simp [errW_none, errW_some] <;> rfl) | (simp [*, errW_none, errW_some] <;> rfl), by repeat (first | (with_reducible first | exact HB.out | apply below_alloc | apply pw_below_drewN | apply below_drew1) | exact HB.out)⟩
end Go.Proofs.YtnknoaolbjofiaaDoor.X
