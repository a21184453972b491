/- The law ClauseModels: what spreads from literals that are true in a model is true there: the call, in plain words. -/
import Derived.Test.YtnknoaolbjofiaaDoorClIdle14
import Derived.Test.YtnknoaolbjofiaaDoorXx7
import Derived.Test.YtnknoaolbjofiaaDoorClModelsP
set_option linter.unusedVariables false
set_option linter.unusedSimpArgs false
namespace Go.Proofs.YtnknoaolbjofiaaDoor.Cl
open Go.RowKit Go.Proofs.YtnknoaolbjofiaaDoorW.PrintWords Go.Proofs.YtnknoaolbjofiaaDoorW.PrintLast Go.Proofs.YtnknoaolbjofiaaDoorW.PrintMore
open Go.Proofs.YtnknoaolbjofiaaDoor.X

theorem true14_f {m : List Bool} {x : Int} (h1 : -1048576 ≤ x) (h2 : x ≤ 1048576) : backreachref14_True.f m x = some (trueB m x) := by
  unfold backreachref14_True.f
  rw [var14_f h1 h2, Option.bind_some]
  unfold trueB
  by_cases h : (x.natAbs : Int) < m.length
  · rw [if_pos h, if_pos (by omega), decide_eq_true (show x.natAbs < m.length by omega), Bool.true_and]
    simp [rdOf]
  · rw [if_neg h, decide_eq_false (show ¬ x.natAbs < m.length by omega), Bool.false_and]
theorem true14_calls (M : Option Addr) (mc : Nat) (m : List Bool) (x : Int) (w : World) (hC : KB.C w M m.length m) (hc : m.length ≤ mc) (h1 : -1048576 ≤ x) (h2 : x ≤ 1048576) :
    Calls Tryd.prog 26 #[.slice M m.length mc, .int .i64 x] w fun e w' => e = .returned (.bool (trueB m x)) ∧ ∃ n, w' = w.drewN n :=
  (backreachref14_True.calls M mc m x _ w hC hc (true14_f h1 h2)).mono fun e w' ⟨he, hd⟩ => ⟨he, hd.out⟩

set_option maxRecDepth 100000 in
set_option maxHeartbeats 8000000 in
theorem models14_law (a0 : Option Addr) (c0 : Nat) (l0 : List (List Int)) (a1 : Option Addr) (c1 : Nat) (l1 : List Int) (a2 : Option Addr) (c2 : Nat) (m : List Bool) (w : World)
    (hr0 : KRd.C w a0 l0.length l0) (hc0 : l0.length ≤ c0) (hm0 : l0.length ≤ maxLen) (hs0 : l0.length * 24 ≤ 140737488351232) (hw0 : ∀ c ∈ l0, ∀ x ∈ c, (Lit.int .i64 x).wf = true)
    (hr1 : KId.C w a1 l1.length l1) (hc1 : l1.length ≤ c1) (hm1 : l1.length ≤ maxLen) (hs1 : l1.length * 8 ≤ 140737488351232) (hw1 : ∀ x ∈ l1, (Lit.int .i64 x).wf = true)
    (hr2 : KB.C w a2 m.length m) (hc2 : m.length ≤ c2) (hm2 : m.length ≤ maxLen) (hs2 : m.length * 1 ≤ 140737488351232) (hT : Tab w) :
    Calls Tryd.prog 7 #[.slice a0 l0.length c0, .slice a1 l1.length c1, .slice a2 m.length c2] w fun e w' => e = .returned (.bool true) ∧ Below w.heap.size w w' := by
  have haw := awake14_calls w hT
  have hf0 := fun W (hW : Below w.heap.size w W) => few14_calls a0 c0 l0 W (Kd.C_below hr0 hW) hc0 (by omega)
  have hlit := fun W b (hW : Below w.heap.size w W) (h0 : W.cell? ⟨b, 0, none⟩ = some (.slice a1 l1.length c1)) => few14_calls (some ⟨b, 0, none⟩) 1 [l1] W (lit_row (Kd.C_below hr1 hW) hc1 h0) (Nat.le_refl 1) (by simp)
  have hrt := fun W b (hW : Below w.heap.size w W) (h0 : W.cell? ⟨b, 0, none⟩ = some (.slice a1 l1.length c1)) => right_calls (some ⟨b, 0, none⟩) 1 [l1] W (lit_row (Kd.C_below hr1 hW) hc1 h0) (Nat.le_refl 1)
  have hho := fun W (hW : Below w.heap.size w W) => holds_calls a0 c0 l0 a2 c2 m W (Kd.C_below hr0 hW) hc0 (Kd.C_below hr2 hW)
  have htr := fun W x (hW : Below w.heap.size w W) h1 h2 => true14_calls a2 c2 m x W (Kd.C_below hr2 hW) hc2 h1 h2
  have HR0 := Aside0.mk hr0
  have HR1 := Aside0.mk hr1
  have HC0 := Aside0.mk hc0
  have HC1 := Aside0.mk hc1
  have HF0 := Lib.hid hf0
  have HLI := Lib.hid hlit
  have HRT := Lib.hid hrt
  have HHO := Lib.hid hho
  have HTR := Lib.hid htr
  have HAW := Lib.hid haw
  clear hf0 hlit hrt hho htr haw hr0 hr1 hr2 hc0 hc1 hc2 hm0 hm1 hm2 hs0 hs1 hs2 hw0 hw1 hT
  go_enter Tryd.func7, Tryd.ntmps7
  go_wp2_with fail
  refine HAW.out.mono ?_
  rintro e w1 ⟨rfl, hb1⟩
  have HB1 := Aside0.mk hb1
  clear hb1 HAW
  go_wp2_with fail
  refine (HF0.out _ HB1.out).mono ?_
  cases h0 : small l0 200 20 200 with
  | false =>
    rintro e w' ⟨rfl, nd, rfl⟩
    clear h0
    go_wp2
    go_ret
    exact ⟨rfl, pw_below_drewN HB1.out _⟩
  | true =>
    have hft0 := few14_total h0
    have HT0 := Lib.hid hft0
    clear hft0 h0
    rintro e w' ⟨rfl, nd0, rfl⟩
    have HB2 : Aside0 (Below w.heap.size w ((w1.drewN nd0).alloc (.cells #[.slice a1 l1.length c1] 23))) := ⟨below_alloc (pw_below_drewN HB1.out _) _⟩
    have hlit := HLI.out _ (w1.drewN nd0).heap.size HB2.out (lit_cell _ _ _)
    have HLIT := Lib.hid hlit
    clear hlit HLI
    go_wp2_with fail
    refine HLIT.out.mono ?_
    cases h1 : small [l1] 200 20 200 with
    | false =>
      rintro e w' ⟨rfl, nd, rfl⟩
      clear h1
      go_wp2
      go_ret
      exact ⟨rfl, pw_below_drewN HB2.out _⟩
    | true =>
      have hft1 := (few14_total h1).1
      have hlt : l1.length ≤ 20 ∧ total l0 ≤ 4000 ∧ l0.length ≤ 200 := ⟨hft1 l1 (by simp), HT0.out.2.2, HT0.out.2.1⟩
      have HLT := Aside0.mk hlt
      clear hft1 h1 hlt
      rintro e w' ⟨rfl, nd1, rfl⟩
      have HB3 : Aside0 (Below w.heap.size w (((w1.drewN nd0).alloc (.cells #[.slice a1 l1.length c1] 23)).drewN nd1)) := ⟨pw_below_drewN HB2.out _⟩
      generalize ((w1.drewN nd0).alloc (.cells #[.slice a1 l1.length c1] 23)).drewN nd1 = w3 at HB3 ⊢
      clear HLIT HB2
      by_cases h3 : m.length > 300
      · have h3b : decide ((m.length : Int) > 300) = true := decide_eq_true (by omega)
        have h3c : decide (300 < m.length) = true := decide_eq_true (by omega)
        clear h3
        go_wp2
        go_ret
        exact ⟨rfl, HB3.out⟩
      have h3b : decide ((m.length : Int) > 300) = false := decide_eq_false (by omega)
      have h3c : decide (300 < m.length) = false := decide_eq_false (by omega)
      clear h3
      have HB4 : Aside0 (Below w.heap.size w (w3.alloc (.cells #[.slice a1 l1.length c1] 23))) := ⟨below_alloc HB3.out _⟩
      have hq := HRT.out _ w3.heap.size HB4.out (lit_cell _ _ _)
      cases h5 : lRight [l1] with
      | false =>
        rw [h5] at hq
        have HQ := Lib.hid hq
        clear hq h5
        go_wp2_with fail
        refine HQ.out.mono ?_
        rintro e w' ⟨rfl, nd, rfl⟩
        go_wp2
        go_ret
        exact ⟨rfl, pw_below_drewN HB4.out _⟩
      | true =>
        rw [h5] at hq
        have HQ := Lib.hid hq
        have hc5 : cRight l1 = true := cRight_of h5 (by simp)
        have HC5 := Lib.hid hc5
        clear hq h5 hc5
        go_wp2_with fail
        refine HQ.out.mono ?_
        rintro e w' ⟨rfl, nd4, rfl⟩
        have HB5 : Aside0 (Below w.heap.size w ((w3.alloc (.cells #[.slice a1 l1.length c1] 23)).drewN nd4)) := ⟨pw_below_drewN HB4.out _⟩
        generalize (w3.alloc (.cells #[.slice a1 l1.length c1] 23)).drewN nd4 = w5 at HB5 ⊢
        clear HB4 HQ HRT
        go_wp2_with fail
        refine (HHO.out _ HB5.out).mono ?_
        cases h6 : holds l0 m with
        | false =>
          rintro e w6 ⟨rfl, hb6⟩
          have HB6 := Aside0.mk (below_then HB5.out HB5.out.size hb6)
          clear hb6 h6
          go_wp2
          go_ret
          exact ⟨rfl, HB6.out⟩
        | true =>
          rintro e w6 ⟨rfl, hb6⟩
          have HB6 := Aside0.mk (below_then HB5.out HB5.out.size hb6)
          have H6 := Lib.hid h6
          clear hb6 h6 HHO HF0
          go_wp2
          go_loopw [7] (fun v7 wr => ∃ i : Nat, v7 = .int .i64 i ∧ Aside0 (i ≤ l1.length) ∧ Aside0 (∀ x ∈ l1.take i, trueB m x = true) ∧ Aside0 (Below w.heap.size w wr)) (fun i _ => l1.length - (intOf i).toNat)
          case atStart => exact ⟨0, rfl, ⟨Nat.zero_le _⟩, ⟨by simp⟩, HB6⟩
          case round =>
            clear HB6
            obtain ⟨i, rfl, hi, hall, hb⟩ := hrel
            have hi := hi.out
            have hl1 := HLT.out.1
            by_cases hlt : i < l1.length
            · obtain ⟨ad2, e2, hcell2⟩ := Kd.at_int (Kd.C_below HR1.out hb.out) (i : Int) (by omega) (by omega)
              have hx := lit_bnd HC5.out (List.getElem_mem hlt)
              have htr := HTR.out wr l1[i] hb.out (by omega) (by omega)
              cases e2
              rw [rd_at hlt, Int.toNat_natCast] at hcell2
              have hnx : trueB m l1[i] = true → ∀ x ∈ l1.take (i + 1), trueB m x = true := fun h x hx => by
                rw [List.take_succ_eq_append_getElem hlt, List.mem_append, List.mem_singleton] at hx
                rcases hx with hx | rfl
                · exact hall.out x hx
                · exact h
              have HNX := Lib.hid hnx
              have HT1 := Lib.hid htr
              clear hnx hx htr
              generalize l1[i] = x at hcell2 HNX HT1
              go_wp2_with fail
              refine HT1.out.mono ?_
              cases ht : trueB m x with
              | false =>
                rintro e w' ⟨rfl, nd, rfl⟩
                clear ht
                go_wp2
                go_ret
                exact ⟨rfl, pw_below_drewN hb.out _⟩
              | true =>
                rintro e w' ⟨rfl, nd, rfl⟩
                have HN := Lib.hid (HNX.out ht)
                clear ht
                go_wp2
                go_roundw
                case rel => exact ⟨i + 1, by go_num, ⟨hlt⟩, ⟨HN.out⟩, ⟨pw_below_drewN hb.out _⟩⟩
                case measure => simp [intOf]; omega
            · have ei : i = l1.length := by omega
              subst ei
              have hall := hall.out
              rw [List.take_length] at hall
              have hmp := models_plain H6.out HC5.out hall
              have hbd : ∀ x ∈ (spread l0 l1).1, -1048576 ≤ x ∧ x ≤ 1048576 := fun x hx => by
                have hl : lRight l0 = true := by have := H6.out; unfold holds at this; rw [Bool.and_eq_true] at this; exact this.1
                rcases spread_char hl HC5.out with ⟨_, e⟩ | ⟨_, r, e, _, hd⟩
                · rw [e] at hx; simp at hx
                · rw [e] at hx
                  have := ((hd x).1 hx).right hl HC5.out
                  simp [litOk] at this
                  omega
              have HMP := Lib.hid hmp
              have HBD := Lib.hid hbd
              have hsl := spread_len l0 l1
              have HSL := Aside0.mk hsl
              clear hall hmp hbd hsl
              have hsa := spreads_calls a0 c0 l0 a1 c1 l1 wr (Kd.C_below HR0.out hb.out) HC0.out (Kd.C_below HR1.out hb.out) HC1.out (by have := HLT.out; omega) (by have := HLT.out; omega)
              obtain ⟨s, ok, hS⟩ : ∃ s ok, spread l0 l1 = (s, ok) := ⟨_, _, rfl⟩
              rw [hS] at hsa HMP HBD HSL
              simp only [] at hsa HMP HBD HSL
              have HSA := Lib.hid hsa
              have hok : ok = true := HMP.out.1
              subst hok
              have hsl : s.length ≤ 4020 := by have := HSL.out; have := HLT.out; omega
              clear hsa hS
              go_wp2_with fail
              refine HSA.out.mono ?_
              rintro e w7 ⟨v7, rfl, hR7, hB7⟩
              have HB7 := Aside0.mk (below_then hb.out hb.out.size hB7)
              obtain ⟨A7, d7, rfl, hl7, hC7⟩ := Kd.R_reads hR7
              have HL7 := Aside0.mk hl7
              have HC7 := Aside0.mk hC7
              clear hR7 hB7 HSA hb hl7 hC7
              go_wp2
              go_loopw [10] (fun v10 wr => ∃ i : Nat, v10 = .int .i64 i ∧ Aside0 (i ≤ s.length) ∧ Aside0 (Below w7.heap.size w7 wr)) (fun i _ => s.length - (intOf i).toNat)
              case atStart => exact ⟨0, rfl, ⟨Nat.zero_le _⟩, ⟨Below.refl _ _⟩⟩
              case round =>
                obtain ⟨i, rfl, hi, hb⟩ := hrel
                have hi := hi.out
                by_cases hlt : i < s.length
                · obtain ⟨ad2, e2, hcell2⟩ := Kd.at_int (Kd.C_below HC7.out hb.out) (i : Int) (by omega) (by omega)
                  have hx := HBD.out _ (List.getElem_mem hlt)
                  have htr := HTR.out wr s[i] (below_then HB7.out HB7.out.size hb.out) hx.1 hx.2
                  rw [HMP.out.2 _ (List.getElem_mem hlt)] at htr
                  cases e2
                  rw [rd_at hlt, Int.toNat_natCast] at hcell2
                  have HT1 := Lib.hid htr
                  clear hx htr
                  generalize s[i] = x at hcell2 HT1
                  go_wp2_with fail
                  refine HT1.out.mono ?_
                  rintro e w' ⟨rfl, nd, rfl⟩
                  go_wp2
                  go_roundw
                  case rel => exact ⟨i + 1, by go_num, ⟨hlt⟩, ⟨pw_below_drewN hb.out _⟩⟩
                  case measure => simp [intOf]; omega
                · have ei : i = s.length := by omega
                  subst ei
                  go_wp2
                  go_ret
                  exact ⟨rfl, below_then HB7.out HB7.out.size hb.out⟩
end Go.Proofs.YtnknoaolbjofiaaDoor.Cl
