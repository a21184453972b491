/- slices.Concat and slices.Grow at lists of clauses: one list behind the other, in new memory. -/
import Derived.Test.YtphloehjcfipfaaProg
import Derived.Test.YtphloehjcfipfaaClSpec
import Derived.Test.YtphloehjcfipfaaWNEv
import Derived.Test.YtphloehjcfipfaaWMore
import Derived.Deep.LoopGhost
import Derived.LoopN
import Derived.KernelRfl
import Derived.Lib.Hide
import Derived.WalkKit
import Derived.Tactics
set_option linter.unusedVariables false
set_option linter.unusedSimpArgs false
namespace Go.Proofs.Ytphloehjcfipfaa.Cl
open Go.RowKit Go.Proofs.YtphloehjcfipfaaW.PrintWords Go.Proofs.YtphloehjcfipfaaW.PrintLast Go.Proofs.YtphloehjcfipfaaW.PrintMore

theorem info35 : (Try.prog.info? 35).map (fun i => (i.zero, i.size, i.bytes)) = some (some (.slice none 0 0), 1, 24) := by kernel_rfl
/-- A list of clauses, as it lies in memory. -/
abbrev KR : Kd (List Int) := Kd.slice 3 (Kd.int .i64)
abbrev KRR : Kd (List (List Int)) := Kd.slice 35 KR

set_option maxHeartbeats 1000000 in
theorem grow_zero (w : World) : Calls Try.prog 72 #[.slice none 0 0, .int .i64 0] w fun e w' => e = .returned (.slice none 0 0) ∧ w' = w := by
  go_enter Try.func72, Try.ntmps72
  go_wp2
  go_ret
  exact ⟨rfl, rfl⟩

set_option maxRecDepth 100000 in
set_option maxHeartbeats 1000000 in
theorem grow_some (n : Nat) (w : World) (hn : 0 < n) (hl : n * 24 ≤ 140737488355328) : Calls Try.prog 72 #[.slice none 0 0, .int .i64 n] w fun e w' => ∃ v, e = .returned v ∧ Kd.N KR 35 w' w.heap.size (fun _ => True) v [] ∧ Below w.heap.size w w' := by
  have hb1 : decide ((n : Int) > 0) = true := by simp; omega
  have hb2 : decide ((n : Int) < 0) = false := by simp
  obtain ⟨i0, hi0, _, hsz0, _⟩ := info_parts info35
  have hcut := fun (A : Option Addr) (n c : Nat) (hc : n ≤ c) => cut_to (P := Try.prog) 22 35 .i64 Try.underlying22 hi0 A n c 0 (Int.le_refl _) (by omega) hc
  have HCUT := Lib.hid hcut
  clear hcut
  have hcut0 : ∀ w, (Instr.slice 22 (.slice none 0 0) none (some (.int .i64 0)) none).run Try.prog w = .ok (.slice none 0 0) w := fun w => by kernel_rfl
  go_enter Try.func72, Try.ntmps72
  go_wp2_with (first
    | (at_builtin; refine Kd.N_append_zeros KR (w0 := w) w.heap.size rfl _ _ 22 3 35 (.slice none 0 0) 24 rfl Try.underlying22 Try.underlying3 info35 rfl (by decide) (by omega) (.slice none 0 0) [] [] (n : Int) (fun _ => True) rfl rfl ?hz (fun _ _ => trivial) (Kd.N_nil _ _ _ _ _) (by omega) (Below.refl _ _) (Nat.le_refl _) (by simp; omega) ?_; rotate_left 1; intro v1 w1 hN hB hg hat; simp only [List.nil_append, Int.toNat_natCast] at hN; obtain ⟨A1, c1, hv, hle, _⟩ := Kd.N_reads hN; rw [List.length_replicate] at hv hle; subst hv; have hcut := HCUT.out A1 n c1 hle w1; have HN := Aside0.mk hN; have HB := Aside0.mk hB; clear hN hB hg hat)
    | go_in)
  · go_ret
    have h0 := Kd.N_take (m := 0) (xs := List.replicate n ([] : List Int)) HN.out (Nat.zero_le _)
    exact ⟨_, rfl, by simpa using h0, HB.out⟩
  · exact fun W' _ => ⟨none, 0, rfl, Nat.le_refl _, Kd.C_nil _ _⟩

/-- Room for so many. -/
theorem grow_calls (n : Nat) (w : World) (hl : n * 24 ≤ 140737488355328) : Calls Try.prog 72 #[.slice none 0 0, .int .i64 n] w fun e w' => ∃ v, e = .returned v ∧ Kd.N KR 35 w' w.heap.size (fun _ => True) v [] ∧ Below w.heap.size w w' := by
  rcases Nat.eq_zero_or_pos n with rfl | hn
  · exact (grow_zero w).mono fun e w' ⟨he, hw⟩ => ⟨_, he, Kd.N_nil _ _ _ _ _, by rw [hw]; exact Below.refl _ _⟩
  · exact grow_some n w hn hl

/-- Lists one behind the other. -/
def cat (ss : List (List (List Int))) : List (List Int) := ss.foldr (· ++ ·) []
theorem cat_take {ss : List (List (List Int))} {i : Nat} (h : i < ss.length) : cat (ss.take (i + 1)) = cat (ss.take i) ++ ss[i] := by
  have : ∀ (xs : List (List (List Int))) (y : List (List Int)), cat (xs ++ [y]) = cat xs ++ y := by
    intro xs
    induction xs with
    | nil => intro y; simp [cat]
    | cons x xs ih =>
      intro y
      have := ih y
      simp only [cat, List.foldr_append, List.foldr_cons, List.cons_append] at *
      rw [this, List.append_assoc]
  rw [List.take_succ_eq_append_getElem h, this]
theorem rowsAt {w : World} {A : Option Addr} {n : Nat} {ss : List (List (List Int))} (h : Kd.C KRR w A n ss) {i : Nat} (hi : i < ss.length) :
    ∃ ad A0 c0, A = some ad ∧ w.cell? (ad.add i) = some (.slice A0 ss[i].length c0) ∧ ss[i].length ≤ c0 ∧ KR.C w A0 ss[i].length ss[i] := by
  have hn : i < n := by have := h.1; omega
  obtain ⟨ad, c, e, _, hK, hc0⟩ := Kd.C_get h ([] : List (List Int)) (i : Int) (by omega) (by omega)
  simp only [Int.toNat_natCast, List.getD_eq_getElem?_getD, List.getElem?_eq_getElem hi, Option.getD_some] at hK hc0
  obtain ⟨A0, c0, rfl, l0, g0⟩ := hK
  exact ⟨ad, A0, c0, e, by have hq := hc0 0 _ rfl; rwa [Nat.add_zero, show (i * KRR.sz) = i from Nat.mul_one i] at hq, l0, g0⟩

set_option maxRecDepth 100000 in
set_option maxHeartbeats 2000000 in
theorem concat_calls (A : Option Addr) (cap : Nat) (ss : List (List (List Int))) (w : World) (hC : Kd.C KRR w A ss.length ss) (hcap : ss.length ≤ cap) (hl : (cat ss).length * 24 ≤ 140737488355328) :
    Calls Try.prog 54 #[.slice A ss.length cap] w fun e w' => ∃ v, e = .returned v ∧ Kd.N KR 35 w' w.heap.size (fun _ => True) v (cat ss) ∧ Below w.heap.size w w' := by
  have HC := Aside0.mk hC
  have hlen : ss.length ≤ 9223372036854775807 := by have h1 := hC.1; have h2 := hC.2.1; omega
  have hmono : ∀ i, i ≤ ss.length → (cat (ss.take i)).length ≤ (cat ss).length := fun i hi => by
    have : cat ss = cat (ss.take i) ++ cat (ss.drop i) := by
      have h2 : ∀ xs ys : List (List (List Int)), cat (xs ++ ys) = cat xs ++ cat ys := by
        intro xs ys
        induction xs with
        | nil => simp [cat]
        | cons x xs ih => simp only [cat, List.cons_append, List.foldr_cons] at *; rw [ih, List.append_assoc]
      rw [← h2, List.take_append_drop]
    rw [this, List.length_append]
    omega
  have HM := Aside0.mk hmono
  clear hC hmono
  go_enter Try.func54, Try.ntmps54
  go_wp2
  go_loop [3, 11] (fun v3 v11 => ∃ i : Nat, v11 = .int .i64 i ∧ Aside0 (i ≤ ss.length) ∧ v3 = .int .i64 ((cat (ss.take i)).length : Int)) (fun _ i => ss.length - (intOf i).toNat)
  case atStart => exact ⟨0, rfl, ⟨Nat.zero_le _⟩, rfl⟩
  case round =>
    obtain ⟨i, rfl, hi, rfl⟩ := hrel
    have hi := hi.out
    have hm := HM.out i hi
    by_cases hlt : i < ss.length
    · obtain ⟨ad, A0, c0, e, hcell, hlc, hrow⟩ := rowsAt HC.out hlt
      cases e
      have hm1 := HM.out (i + 1) hlt
      have hcat := cat_take hlt
      have hlc1 : (cat (ss.take (i + 1))).length = (cat (ss.take i)).length + ss[i].length := by rw [hcat, List.length_append]
      have HL := Lib.hid hlc1
      rw [hlc1] at hm1
      have hneg : decide (((cat (ss.take i)).length : Int) + (ss[i].length : Int) < 0) = false := by simp; omega
      clear hcat hlc1 hrow
      go_wp2
      go_round
      case rel => exact ⟨i + 1, by go_num, ⟨hlt⟩, by rw [HL.out]; go_num⟩
      case measure => simp [intOf]; omega
    · have ei : i = ss.length := by omega
      subst ei
      have hgrow := grow_calls (cat ss).length w hl
      have HG := Lib.hid hgrow
      clear hgrow
      go_wp2_with (go_at_call 72; refine (HG.out).mono ?_; rintro e w1 ⟨v1, rfl, hN, hB⟩; have HN := Aside0.mk hN; have HB := Aside0.mk hB; clear hN hB)
      go_loopw [6, 27] (fun v6 v27 wr => ∃ i : Nat, v27 = .int .i64 i ∧ Aside0 (i ≤ ss.length) ∧ Aside0 (Kd.N KR 35 wr w.heap.size (fun _ => True) v6 (cat (ss.take i))) ∧ Aside0 (Below w.heap.size w wr)) (fun _ i _ => ss.length - (intOf i).toNat)
      case atStart => exact ⟨0, rfl, ⟨Nat.zero_le _⟩, HN, HB⟩
      case round =>
        clear HN HB
        obtain ⟨i, rfl, hi, hN, hB⟩ := hrel
        have hi := hi.out
        by_cases hlt : i < ss.length
        · obtain ⟨ad, A0, c0, e, hcell, hlc, hrow⟩ := rowsAt (Kd.C_below HC.out hB.out) hlt
          cases e
          have hm1 := HM.out (i + 1) hlt
          rw [cat_take hlt, List.length_append] at hm1
          have hF : Kd.F KR wr (fun k => k < w.heap.size) A0 ss[i].length ss[i] := by
            obtain ⟨ad2, A2, c2, e2, hcell2, _, hrow2⟩ := rowsAt HC.out hlt
            cases e2
            have := (hB.out.cell (World.block_lt_of_cell? w _ hcell2)).trans hcell2
            rw [hcell] at this
            cases this
            exact Kd.F_below (Kd.C_F (Kd.heap_slice 3 (Kd.heap_int .i64)) hrow2) hB.out
          have HF := Aside0.mk hF
          have HCT := Lib.hid (cat_take hlt)
          clear hF hrow
          go_wp2_with (first
            | (at_builtin; refine Kd.N_append_rows KR (w0 := w) w.heap.size rfl _ _ 22 35 (.slice none 0 0) 24 rfl Try.underlying22 info35 rfl (by decide) (by omega) u6 (cat (ss.take i)) ss[i] A0 ss[i].length c0 (fun _ => True) (fun k => k < w.heap.size) rfl rfl hN.out HF.out (fun k hk => ⟨trivial, fun e => by have := Kd.N_base hN.out k e.symm; omega⟩) (fun _ _ => trivial) hB.out hB.out.size (by omega) ?_; intro v8 w8 hN8 hB8 hg8 hat8; have HN8 := Aside0.mk hN8; have HB8 := Aside0.mk hB8; clear hN8 hB8 hg8 hat8)
            | go_in)
          go_roundw
          case rel => exact ⟨i + 1, by go_num, ⟨hlt⟩, ⟨by rw [HCT.out]; exact HN8.out⟩, HB8⟩
          case measure => simp [intOf]; omega
        · have ei : i = ss.length := by omega
          subst ei
          go_wp2
          go_ret
          exact ⟨u6, rfl, by have := hN.out; rwa [List.take_length] at this, hB.out⟩
end Go.Proofs.Ytphloehjcfipfaa.Cl
