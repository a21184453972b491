/- clause.Holds: do all clauses hold in a model? The plain answer, and the walk. -/
import Derived.Test.YtnknoaolbjofiaaDoorClRight
import Derived.Test.YtnknoaolbjofiaaDoorClSorted
import Derived.OneCell
import Derived.LoopN
import Derived.BigQuiet
import Derived.Deep.QuietTactic
set_option linter.unusedVariables false
set_option linter.unusedSimpArgs false
namespace Go.Proofs.YtnknoaolbjofiaaDoor.Cl
open Go.RowKit Go.Proofs.YtnknoaolbjofiaaDoorW.PrintWords Go.Proofs.YtnknoaolbjofiaaDoorW.PrintLast Go.Proofs.YtnknoaolbjofiaaDoorW.PrintMore

/-- Is a literal true in a model? -/
def trueB (model : List Bool) (x : Int) : Bool := (decide (x.natAbs < model.length) && model.getD x.natAbs false) == decide (x > 0)
def holds (l : List (List Int)) (model : List Bool) : Bool := lRight l && l.all (fun c => c.any (trueB model))

/-- Where the first one stands for which something is told. -/
def firstP {α : Type} (p : α → Bool) : List α → Int
  | [] => -1
  | c :: r => if p c then 0 else if firstP p r < 0 then -1 else firstP p r + 1
theorem firstP_range {α : Type} (p : α → Bool) : ∀ l, -1 ≤ firstP p l ∧ firstP p l < l.length ∨ (l = [] ∧ firstP p l = -1)
  | [] => .inr ⟨rfl, rfl⟩
  | c :: r => by
    refine .inl ?_
    unfold firstP
    have := firstP_range p r
    simp only [List.length_cons]
    split
    · omega
    · split
      · omega
      · rcases this with h | ⟨_, h⟩ <;> omega
theorem firstP_any {α : Type} (p : α → Bool) : ∀ l, (decide (0 ≤ firstP p l)) = l.any p
  | [] => by simp [firstP]
  | c :: r => by
    have := firstP_any p r
    unfold firstP
    rw [List.any_cons]
    cases h : p c with
    | true => simp
    | false =>
      rw [if_neg (by simp), Bool.false_or, ← this]
      split
      · rename_i h1
        simp; omega
      · rename_i h1
        simp; omega
theorem firstP_step {α : Type} (p : α → Bool) {l : List α} : ∀ {i : Nat}, i ≤ l.length → (∀ j, (h : j < i) → ∀ h2 : j < l.length, p l[j] = false) → firstP p l = if firstP p (l.drop i) < 0 then -1 else firstP p (l.drop i) + i
  | 0, _, _ => by
    have := firstP_range p l
    simp only [List.drop_zero]
    split
    · rcases this with h | ⟨_, h⟩ <;> omega
    · simp
  | i + 1, hi, h => by
    cases l with
    | nil => simp at hi
    | cons c r =>
      have hc := h 0 (by omega) (by simp)
      simp only [List.getElem_cons_zero] at hc
      have ih := firstP_step p (l := r) (i := i) (by simpa using hi) (fun j hj h2 => by have := h (j + 1) (by omega) (by simp; omega); simpa using this)
      rw [List.drop_succ_cons]
      have e : firstP p (c :: r) = if firstP p r < 0 then -1 else firstP p r + 1 := by
        show (if p c then 0 else if firstP p r < 0 then -1 else firstP p r + 1) = _
        rw [if_neg (by rw [hc]; simp)]
      rw [e, ih]
      generalize firstP p (r.drop i) = z
      by_cases hz : z < 0
      · rw [if_pos hz, if_pos (by omega), if_pos hz]
      · rw [if_neg hz, if_neg (by omega), if_neg hz]; omega

abbrev KB : Kd Bool := Kd.bool
set_option maxHeartbeats 1000000 in
theorem holds1_calls {W : World} {b3 : Nat} {M : Option Addr} {mc : Nat} {model : List Bool} (x : Int) (h1 : -1048576 ≤ x) (h2 : x ≤ 1048576) (hb : W.heap[b3]? = some (.cells #[.slice M model.length mc] 37 (0, 0))) (hC : KB.C W M model.length model) :
    Calls Tryd.prog 44 #[.int .i64 x, .pointer (some ⟨b3, 0, none⟩)] W fun e w' => e = .returned (.bool (trueB model x)) ∧ w' = W := by
  have hcell := cell_of_one hb
  have hvar : ∀ w, Calls Tryd.prog 35 #[.int .i64 x] w fun e w' => e = .returned (.int .i64 (x.natAbs : Int)) ∧ w' = w := fun w => by
    have := variable_any x w
    rwa [show vr x = (x.natAbs : Int) by unfold vr mx wrap64; split <;> omega] at this
  have HV := Lib.hid hvar
  clear hvar
  by_cases hlt : x.natAbs < model.length
  · obtain ⟨ad, c, e, _, hK, hc0⟩ := Kd.C_get hC false (x.natAbs : Int) (by omega) (by omega)
    cases e
    have hK : c = [.bool (model.getD x.natAbs false)] := by simpa [Kd.bool, Kd.scalar] using hK
    subst hK
    have hq := hc0 0 _ rfl
    rw [Nat.add_zero, Int.toNat_natCast, show x.natAbs * KB.sz = x.natAbs from Nat.mul_one _] at hq
    have hlb : decide ((x.natAbs : Int) < (model.length : Int)) = true := by simpa using hlt
    have htr : trueB model x = (model.getD x.natAbs false == decide (x > 0)) := by unfold trueB; rw [decide_eq_true hlt, Bool.true_and]
    have HT := Lib.hid htr
    generalize model.getD x.natAbs false = mb at *
    clear hC hc0 htr
    go_enter Tryd.func44, Tryd.ntmps44
    go_wp2_with (go_at_call 35; refine (HV.out _).mono ?_; rintro e w' ⟨rfl, rfl⟩)
    go_ret
    exact ⟨by rw [HT.out]; rfl, rfl⟩
  · have hlb : decide ((x.natAbs : Int) < (model.length : Int)) = false := by simpa using hlt
    have htr : trueB model x = !decide (0 < x) := by
      unfold trueB
      rw [decide_eq_false hlt, Bool.false_and]
      show (false == decide (0 < x)) = !decide (0 < x)
      cases decide (0 < x) <;> rfl
    have HT := Lib.hid htr
    clear hC htr
    go_enter Tryd.func44, Tryd.ntmps44
    go_wp2_with (go_at_call 35; refine (HV.out _).mono ?_; rintro e w' ⟨rfl, rfl⟩)
    go_ret
    exact ⟨by rw [HT.out]; rfl, rfl⟩

set_option maxHeartbeats 1000000 in
theorem hindex_calls (A : Option Addr) (cap : Nat) (c : List Int) {w : World} {b3 : Nat} {M : Option Addr} {mc : Nat} {model : List Bool} (hI : (Kd.int .i64).C w A c.length c) (hcap : c.length ≤ cap) (hr : cRight c = true) (hb : w.heap[b3]? = some (.cells #[.slice M model.length mc] 37 (0, 0))) (hC : KB.C w M model.length model) :
    Calls Tryd.prog 57 #[.slice A c.length cap, .func (.func 44) #[] #[.pointer (some ⟨b3, 0, none⟩)]] w fun e w' => e = .returned (.int .i64 (firstP (trueB model) c)) ∧ w' = w := by
  have HI := Aside0.mk hI
  have hlen : c.length ≤ 9223372036854775807 := by have h1 := hI.1; have h2 := hI.2.1; omega
  have hcl := fun (x : Int) (hx : x ∈ c) => holds1_calls x (by have := List.all_eq_true.1 hr x hx; simp [litOk] at this; omega) (by have := List.all_eq_true.1 hr x hx; simp [litOk] at this; omega) hb hC
  have HCL := Lib.hid hcl
  clear hI hb hC hcl hr
  go_enter Tryd.func57, Tryd.ntmps57
  go_wp2
  go_loop [8] (fun v8 => ∃ i : Nat, v8 = .int .i64 i ∧ Aside0 (i ≤ c.length) ∧ Aside0 (∀ j, (h : j < i) → ∀ h2 : j < c.length, trueB model c[j] = false)) (fun i => c.length - (intOf i).toNat)
  case atStart => exact ⟨0, rfl, ⟨Nat.zero_le _⟩, ⟨fun j h => by omega⟩⟩
  case round =>
    obtain ⟨i, rfl, hi, hno⟩ := hrel
    have hi := hi.out
    have hst := Lib.hid (firstP_step (trueB model) hi hno.out)
    by_cases hlt : i < c.length
    · obtain ⟨ad, e, hcell⟩ := Kd.at_int HI.out (i : Int) (by omega) (by omega)
      cases e
      rw [rd_at hlt, Int.toNat_natCast] at hcell
      have hd : c.drop i = c[i] :: c.drop (i + 1) := List.drop_eq_getElem_cons hlt
      have HE := Lib.hid (HCL.out c[i] (List.getElem_mem hlt))
      cases hb : trueB model c[i] with
      | true =>
        have hres : firstP (trueB model) c = (i : Int) := by
          rw [hst.out, hd]
          simp only [firstP, hb, if_true]
          omega
        have hE := HE.out
        rw [hb] at hE
        have HE2 := Lib.hid hE
        have HF := Lib.hid hres
        generalize c[i] = x at hcell HE HE2 hd hb
        clear hE hb hd hres
        go_wp2_with (go_at_call 44; refine HE2.out.mono ?_; rintro e w' ⟨rfl, rfl⟩)
        go_ret
        exact ⟨by rw [HF.out]; rfl, rfl⟩
      | false =>
        have hE := HE.out
        rw [hb] at hE
        have HE2 := Lib.hid hE
        have HNO : Aside0 (∀ j, (h : j < i + 1) → ∀ h2 : j < c.length, trueB model c[j] = false) := ⟨fun j h h2 => by
          rcases Nat.lt_or_ge j i with h3 | h3
          · exact hno.out j h3 h2
          · obtain rfl : j = i := by omega
            exact hb⟩
        generalize c[i] = x at hcell HE HE2 hd hb
        clear hE hb hd
        go_wp2_with (go_at_call 44; refine HE2.out.mono ?_; rintro e w' ⟨rfl, rfl⟩)
        go_round
        case rel => exact ⟨i + 1, by go_num, ⟨hlt⟩, HNO⟩
        case measure => simp [intOf]; omega
    · have ei : i = c.length := by omega
      subst ei
      have hfin : firstP (trueB model) c = -1 := by
        rw [hst.out, List.drop_length]
        simp [firstP]
      have HF := Lib.hid hfin
      clear hfin
      go_wp2
      go_ret
      exact ⟨by rw [HF.out]; rfl, rfl⟩

set_option maxHeartbeats 1000000 in
theorem hcontains_calls (A : Option Addr) (cap : Nat) (c : List Int) {w : World} {b3 : Nat} {M : Option Addr} {mc : Nat} {model : List Bool} (hI : (Kd.int .i64).C w A c.length c) (hcap : c.length ≤ cap) (hr : cRight c = true) (hb : w.heap[b3]? = some (.cells #[.slice M model.length mc] 37 (0, 0))) (hC : KB.C w M model.length model) :
    Calls Tryd.prog 43 #[.slice A c.length cap, .func (.func 44) #[] #[.pointer (some ⟨b3, 0, none⟩)]] w fun e w' => e = .returned (.bool (c.any (trueB model))) ∧ w' = w := by
  have HCON := Lib.hid (hindex_calls A cap c hI hcap hr hb hC)
  have HF := Lib.hid (firstP_any (trueB model) c)
  generalize firstP (trueB model) c = r at HCON HF
  clear hI hb hC
  go_enter Tryd.func43, Tryd.ntmps43
  go_wp2_with (go_at_call 57; refine (HCON.out).mono ?_; rintro e w' ⟨rfl, rfl⟩)
  go_ret
  exact ⟨by rw [← HF.out]; rfl, rfl⟩

abbrev KRh : Kd (List Int) := Kd.slice 3 (Kd.int .i64)
set_option maxRecDepth 100000 in
set_option maxHeartbeats 4000000 in
theorem holds_calls (A : Option Addr) (cap : Nat) (l : List (List Int)) (M : Option Addr) (mc : Nat) (model : List Bool) (w : World) (hC : KRh.C w A l.length l) (hcap : l.length ≤ cap) (hM : KB.C w M model.length model) :
    Calls Tryd.prog 22 #[.slice A l.length cap, .slice M model.length mc] w fun e w' => e = .returned (.bool (holds l model)) ∧ Below w.heap.size w w' := by
  have HC := Aside0.mk hC
  have HM := Aside0.mk hM
  have hlen : l.length ≤ 9223372036854775807 := by have h1 := hC.1; have h2 := hC.2.1; omega
  have hrt := fun W (hW : Below w.heap.size w W) => right_calls A cap l W (Kd.C_below hC hW) hcap
  cases hl : lRight l with
  | false =>
    have hh : holds l model = false := by unfold holds; rw [hl]; rfl
    rw [hl] at hrt
    have HRT := Lib.hid hrt
    have HH := Lib.hid hh
    clear hC hM hrt hh hl
    go_enter Tryd.func22, Tryd.ntmps22
    go_wp2_with (go_at_call 18; refine (HRT.out _ (by repeat (first | exact Below.refl _ _ | apply below_alloc))).mono ?_; rintro e w' ⟨rfl, nd, rfl⟩)
    go_ret
    exact ⟨by rw [HH.out]; rfl, pw_below_drewN (below_alloc (Below.refl _ _) _) _⟩
  | true =>
    have hh : holds l model = l.all (fun c => c.any (trueB model)) := by unfold holds; rw [hl, Bool.true_and]
    rw [hl] at hrt
    have HRT := Lib.hid hrt
    have HH := Lib.hid hh
    have HLR := Lib.hid hl
    clear hC hM hrt hh hl
    go_enter Tryd.func22, Tryd.ntmps22
    go_wp2_with (go_at_call 18; refine (HRT.out _ (by repeat (first | exact Below.refl _ _ | apply below_alloc))).mono ?_; rintro e w' ⟨rfl, nd, rfl⟩)
    have HW1 : Aside0 (Below w.heap.size w ((w.alloc (.cells #[.slice M model.length mc] 37)).drewN nd)) := ⟨pw_below_drewN (below_alloc (Below.refl _ _) _) _⟩
    have HX1 : Aside0 (((w.alloc (.cells #[.slice M model.length mc] 37)).drewN nd).heap[w.heap.size]? = some (.cells #[.slice M model.length mc] 37 (0, 0))) := ⟨heap_alloc_new w _⟩
    go_loopw [12] (fun v12 wr => ∃ i : Nat, v12 = .int .i64 i ∧ Aside0 (i ≤ l.length) ∧ Aside0 (l.all (fun c => c.any (trueB model)) = (l.drop i).all (fun c => c.any (trueB model))) ∧ Aside0 (Below w.heap.size w wr) ∧ Aside0 (wr.heap[w.heap.size]? = some (.cells #[.slice M model.length mc] 37 (0, 0)))) (fun i _ => l.length - (intOf i).toNat)
    case atStart => exact ⟨0, rfl, ⟨Nat.zero_le _⟩, ⟨rfl⟩, HW1, HX1⟩
    case round =>
      clear HW1 HX1
      obtain ⟨i, rfl, hi, hgo, hb, hx⟩ := hrel
      have hi := hi.out
      by_cases hlt : i < l.length
      · obtain ⟨ad, c, e, _, hK, hc0⟩ := Kd.C_get (Kd.C_below HC.out hb.out) ([] : List Int) (i : Int) (by omega) (by omega)
        simp only [Int.toNat_natCast, List.getD_eq_getElem?_getD, List.getElem?_eq_getElem hlt, Option.getD_some] at hK hc0
        obtain ⟨A0, c0, rfl, l0, g0⟩ := hK
        cases e
        have hcell : wr.cell? (ad.add i) = some (.slice A0 l[i].length c0) := by
          have hq := hc0 0 _ rfl
          rwa [Nat.add_zero, show (i * KRh.sz) = i from Nat.mul_one i] at hq
        have hcon := hcontains_calls A0 c0 l[i] g0 l0 (cRight_of HLR.out (List.getElem_mem hlt)) hx.out (Kd.C_below HM.out hb.out)
        have hd : (l.drop i).all (fun c => c.any (trueB model)) = (l[i].any (trueB model) && (l.drop (i + 1)).all (fun c => c.any (trueB model))) := drop_all _ hlt
        cases hany : l[i].any (trueB model) with
        | true =>
          rw [hany] at hcon hd
          have HCON := Lib.hid hcon
          have HGO := Aside0.mk (hgo.out.trans (hd.trans (Bool.true_and _)))
          clear hcon hd hany hc0 g0
          go_wp2_with (go_at_call 43; refine HCON.out.mono ?_; rintro e w' ⟨rfl, rfl⟩)
          go_roundw
          case rel => exact ⟨i + 1, by go_num, ⟨hlt⟩, HGO, hb, hx⟩
          case measure => simp [intOf]; omega
        | false =>
          rw [hany] at hcon hd
          have HCON := Lib.hid hcon
          have HGO := Lib.hid (HH.out.trans (hgo.out.trans (hd.trans (Bool.false_and _))))
          clear hcon hd hany hc0 g0
          go_wp2_with (go_at_call 43; refine HCON.out.mono ?_; rintro e w' ⟨rfl, rfl⟩)
          go_ret
          exact ⟨by rw [HGO.out]; rfl, hb.out⟩
      · have ei : i = l.length := by omega
        subst ei
        have hfin := HH.out.trans hgo.out
        rw [List.drop_length] at hfin
        have HF := Lib.hid hfin
        clear hfin
        go_wp2
        go_ret
        exact ⟨by rw [HF.out]; rfl, hb.out⟩
end Go.Proofs.YtnknoaolbjofiaaDoor.Cl
