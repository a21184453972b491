/- For the statement of the row ClauseBack: what its proof needs of the text ClParse. -/
import Derived.Test.YtnknoaolbjofiaaDoorKClLine

set_option linter.unusedVariables false
set_option linter.unusedSimpArgs false
namespace Go.Proofs.YtnknoaolbjofiaaDoor.Cl
open Go.RowKit Go.Proofs.YtnknoaolbjofiaaDoorW.PrintWords Go.Proofs.YtnknoaolbjofiaaDoorW.PrintLast Go.Proofs.YtnknoaolbjofiaaDoorW.PrintMore
set_option maxRecDepth 100000 in
set_option maxHeartbeats 8000000 in
theorem parse_calls (l : List UInt8) (hsz : l.length ≤ 1000000000) (w : World) (hL : Libs w) :
    Calls Tryd.prog 27 #[.string ⟨l.toArray⟩] w fun e w' => (∃ val, e = .returned (.tuple #[val, .int .i64 (parseP l).2.1, .int .i64 (parseP l).2.2]) ∧ Kd.N KRd 23 w' w.heap.size (fun k => w.heap.size ≤ k) val (parseP l).1) ∧ Below w.heap.size w w' := by
  have hsp := split_calls 10 l hsz w hL
  have hsub := splitBy_sub 10 l
  have hwl := splitBy_length 10 l
  have hne := splitBy_ne 10 l
  show Calls _ _ _ _ fun e w' => (∃ val, e = .returned (.tuple #[val, .int .i64 (parseL (splitBy 10 l)).2.1, .int .i64 (parseL (splitBy 10 l)).2.2]) ∧ Kd.N KRd 23 w' w.heap.size (fun k => w.heap.size ≤ k) val (parseL (splitBy 10 l)).1) ∧ Below w.heap.size w w'
  generalize splitBy 10 l = W at hsp hsub hwl hne ⊢
  have hwl : W.length ≤ 1000000001 := by omega
  have hpos : 0 < W.length := List.length_pos_iff.2 hne
  have hsub : ∀ x ∈ W, x.length ≤ 1000000000 := fun x hx => by have := hsub x hx; omega
  have hpe := parseL_eq hpos
  have hhead := head_calls W[0] (hsub _ (List.getElem_mem hpos))
  obtain ⟨R1, R2, R3, hR⟩ : ∃ R1 R2 R3, parseL W = (R1, R2, R3) := ⟨_, _, _, rfl⟩
  rw [hR] at hpe ⊢
  simp only []
  have HSP := Lib.hid hsp
  have HL := Lib.hid hL
  have HSUB := Lib.hid hsub
  have HPE := Lib.hid hpe
  have HHEAD := Lib.hid hhead
  have HW0 := Lib.hid (fun (w1 : World) (hC : StrsAt w1 w.heap.size W) => at_strs hC hpos)
  clear hsp hL hsub hpe hne hR hhead
  generalize hx0 : W[0] = x0 at HPE HHEAD HW0
  clear hx0
  have hsubw : IntKind.i64.wrap ((W.length : Int) - 1) = (W.length : Int) - 1 := IntWalk.i64_in _ (by omega)
  go_enter Tryd.func27, Tryd.ntmps27
  go_wp2_with fail
  refine HSP.out.mono ?_
  rintro e w1 ⟨rfl, hC, hb1⟩
  have HB1 := Aside0.mk hb1
  have HC := Aside0.mk hC
  have hc0 := HW0.out w1 hC
  clear hC hb1 HSP HW0
  go_wp2_with fail
  refine (HHEAD.out _ (HL.out.below HB1.out)).mono ?_
  rintro e w2 ⟨⟨v, n, ok, rfl, hh⟩, hb2⟩
  have HB2 := Aside0.mk (below_then HB1.out HB1.out.size hb2)
  have HC2 := Aside0.mk (HC.out.below hb2)
  clear hb2 HB1 HC hc0 HHEAD
  unfold headB at hh
  cases hp : headW (splitBy 32 x0) with
  | none =>
    rw [hp] at hh
    have hh : ok = false := hh
    subst hh
    have hpe := HPE.out
    have hp2 : headP x0 = none := hp
    rw [hp2] at hpe
    obtain ⟨rfl, rfl, rfl⟩ : R1 = [] ∧ R2 = 2 ∧ R3 = 1 := by simpa using hpe
    clear hpe hp hp2 HPE
    go_wp2
    go_ret3
    exact ⟨⟨_, rfl, Kd.N_nil _ _ _ _ _⟩, HB2.out⟩
  | some ab =>
    obtain ⟨a, b⟩ := ab
    rw [hp] at hh
    obtain ⟨rfl, rfl, rfl⟩ : ok = true ∧ v = (a : Int) ∧ n = (b : Int) := hh
    have hab := headW_le hp
    have hpe := HPE.out
    have hp2 : headP x0 = some (a, b) := hp
    rw [hp2] at hpe
    simp only [] at hpe
    have ha := hab.1
    have hb := hab.2
    clear HPE hp hp2 hab
    by_cases h1 : W.length = 1
    · rw [if_pos h1] at hpe
      obtain ⟨rfl, rfl, rfl⟩ : R1 = [] ∧ R2 = 2 ∧ R3 = 1 := by simpa using hpe
      have hd1 : decide ((W.length : Int) - 1 = 0) = true := decide_eq_true (by omega)
      have hd2 : ((W.length : Int) - 1 == 0) = true := by simp; omega
      clear hpe
      go_wp2
      go_ret3
      exact ⟨⟨_, rfl, Kd.N_nil _ _ _ _ _⟩, HB2.out⟩
    · rw [if_neg h1] at hpe
      have hd1 : decide ((W.length : Int) - 1 = 0) = false := decide_eq_false (by omega)
      have hd2 : ((W.length : Int) - 1 == 0) = false := by simp; omega
      have HPE := Lib.hid hpe
      clear hpe
      go_wp2
      go_loopw [10, 11] (fun v10 v11 wr => ∃ (k : Nat) (out : List (List Int)), v11 = .int .i64 k ∧ Aside0 (1 ≤ k ∧ k < W.length) ∧ Aside0 (out.length + 1 = k) ∧ Aside0 ((R1, R2, R3) = pgo a b (W.drop k) k out) ∧ Aside0 (Kd.N KRd 23 wr w.heap.size (fun k => w.heap.size ≤ k) v10 out) ∧ Aside0 (Below w.heap.size w wr) ∧ Aside0 (StrsAt wr w.heap.size W) ∧ Aside0 (v10.ownBlock ≠ some w.heap.size)) (fun _ i _ => W.length - (intOf i).toNat)
      case atStart => exact ⟨1, [], rfl, ⟨Nat.le_refl _, by omega⟩, ⟨rfl⟩, ⟨HPE.out⟩, ⟨Kd.N_nil _ _ _ _ _⟩, HB2, HC2, ⟨by simp [Value.ownBlock]⟩⟩
      case round =>
        clear HB2 HC2 HPE
        obtain ⟨k, out, rfl, hk, hol, hgo, hN, hbw, hC, hne10⟩ := hrel
        have hk1 := hk.out.1
        have hk2 := hk.out.2
        have hol := hol.out
        by_cases hlt : k + 1 < W.length
        · have hcell := at_strs hC.out hk2
          have hline := line_calls W[k] (HSUB.out _ (List.getElem_mem hk2)) a ha
          have hgo2 := hgo.out
          rw [List.drop_eq_getElem_cons hk2, pgo_step (fun e => by have := congrArg List.length e; rw [List.length_drop] at this; simp at this; omega)] at hgo2
          have HLINE := Lib.hid hline
          have HGO := Lib.hid hgo2
          clear hline hgo2 hgo
          generalize W[k] = x at hcell HLINE HGO
          have hlk : decide ((k : Int) < (W.length : Int) - 1) = true := decide_eq_true (by omega)
          go_wp2_with fail
          refine (HLINE.out _ (HL.out.below hbw.out)).mono ?_
          rintro e w3 ⟨⟨val, ok, rfl, hok, hval⟩, hb3⟩
          have HC3 := Aside0.mk (hC.out.below hb3)
          have HN3 := Aside0.mk (Kd.N_below hN.out hb3)
          have HLT := Lib.hid (fun q e => Kd.N_lt hN.out q e)
          have HB3 := Aside0.mk (below_then hbw.out hbw.out.size hb3)
          have HSZ := Aside0.mk hbw.out.size
          have HOL := Aside0.mk hol
          have hout : (out.length + 1) * 24 ≤ 140737488355328 := by omega
          have HOUT := Aside0.mk hout
          clear hC hN hbw hb3 hcell HLINE hol hout
          cases hlp : lineP a (splitBy 32 x) with
          | none =>
            rw [hlp] at hok
            have hok2 : ok = false := hok
            clear hok
            subst hok2
            have hgo := HGO.out
            rw [hlp] at hgo
            obtain ⟨rfl, rfl, rfl⟩ : R1 = [] ∧ R2 = 2 ∧ R3 = (k : Int) + 1 := by
              by_cases hbk : b < k
              · rw [if_pos hbk] at hgo; simpa using hgo
              · rw [if_neg hbk] at hgo; simpa using hgo
            clear hgo HGO hlp hval
            go_wp2
            go_ret3
            exact ⟨⟨_, rfl, Kd.N_nil _ _ _ _ _⟩, HB3.out⟩
          | some c =>
            rw [hlp] at hok
            have hok2 : ok = true := hok
            clear hok
            subst hok2
            have hgo := HGO.out
            rw [hlp] at hgo
            have hNc := hval c hlp
            clear HGO hlp hval
            by_cases hbk : b < k
            · rw [if_pos hbk] at hgo
              obtain ⟨rfl, rfl, rfl⟩ : R1 = [] ∧ R2 = 2 ∧ R3 = (k : Int) + 1 := by simpa using hgo
              have hd1 : decide ((k : Int) > (b : Int)) = true := decide_eq_true (by omega)
              have hd2 : decide (b < k) = true := decide_eq_true hbk
              clear hgo
              go_wp2
              go_ret3
              exact ⟨⟨_, rfl, Kd.N_nil _ _ _ _ _⟩, HB3.out⟩
            · rw [if_neg hbk] at hgo
              simp only [] at hgo
              have HGO2 := Lib.hid hgo
              have hd1 : decide ((k : Int) > (b : Int)) = false := decide_eq_false (by omega)
              have hd2 : decide (b < k) = false := decide_eq_false hbk
              obtain ⟨Ac, cc, rfl, hlc, hCc⟩ := Kd.N_reads hNc
              have hFc := Kd.N_F hNc
              have HLC := Aside0.mk hlc
              have HFC := Aside0.mk hFc
              have hcl : c.length ≤ 9223372036854775807 := hCc.2.1
              clear hgo hNc hlc hFc hCc
              go_wp2_with (first
                | (at_builtin; refine Kd.N_append KRd (w0 := w) w.heap.size rfl _ _ 22 23 (.slice none 0 0) 24 rfl Tryd.underlying22 info22d rfl (by decide) (by omega) u10 out c [.slice Ac c.length cc] (fun k => w.heap.size ≤ k) (fun k => wr.heap.size ≤ k) rfl rfl (Kd.FK_slice_mk HLC.out HFC.out) (fun q hq => ⟨Nat.le_trans HSZ.out hq, fun e => by have := HLT.out q e.symm; omega⟩) (fun q hq => Nat.le_trans HB3.out.size hq) HN3.out HB3.out HB3.out.size HOUT.out ?_; intro v8 w8 hN8 hB8 hg8 hat8; have HN8 := Aside0.mk hN8; have HB8 := Aside0.mk hB8; have HG8 := Aside0.mk hg8; have HA8 := Aside0.mk hat8; clear hN8 hB8 hg8 hat8)
                | fail)
              go_roundw
              case rel => exact ⟨k + 1, out ++ [c], by go_num, ⟨by omega, by omega⟩, ⟨by have := HOL.out; simp; omega⟩, ⟨HGO2.out⟩, HN8, HB8, ⟨HC3.out.grown HG8.out hne10.out⟩, ⟨own_ne_app HA8.out hne10.out HC3.out.lt⟩⟩
              case measure => simp [intOf]; omega
        · have ek : k + 1 = W.length := by omega
          have hcell := at_strs hC.out hk2
          have hgo2 := hgo.out
          have hdr : W.drop k = [W[k]] := by
            rw [List.drop_eq_getElem_cons hk2]
            have : W.drop (k + 1) = [] := by rw [ek]; simp
            rw [this]
          rw [hdr, pgo_last] at hgo2
          have HGO := Lib.hid hgo2
          clear hgo2 hgo hdr
          generalize W[k] = x at hcell HGO
          have hlk : decide ((k : Int) < (W.length : Int) - 1) = false := decide_eq_false (by omega)
          have hcell2 : wr.cell? ⟨w.heap.size, W.length - 1, none⟩ = some (.string ⟨x.toArray⟩) := by rw [show W.length - 1 = k by omega]; exact hcell
          have hidx : ((W.length : Int) - 1).toNat = W.length - 1 := by omega
          obtain ⟨Ao, co, rfl, hlo, hCo⟩ := Kd.N_reads hN.out
          have hol2 : out.length ≤ 1000000001 := by omega
          by_cases hx : x = []
          · subst hx
            by_cases hbk : b < k
            · have hgo := HGO.out
              rw [if_pos ⟨rfl, hbk⟩] at hgo
              obtain ⟨rfl, rfl, rfl⟩ : R1 = out ∧ R2 = 0 ∧ R3 = 0 := by simpa using hgo
              have hd1 : decide ((R1.length : Int) < (b : Int)) = false := decide_eq_false (by omega)
              have hd2 : decide (R1.length < b) = false := decide_eq_false (by omega)
              clear hgo HGO hlo hCo
              go_wp2
              go_ret3
              exact ⟨⟨_, rfl, hN.out⟩, hbw.out⟩
            · have hgo := HGO.out
              rw [if_neg (fun h => hbk h.2)] at hgo
              obtain ⟨rfl, rfl, rfl⟩ : R1 = [] ∧ R2 = 2 ∧ R3 = (k : Int) + 1 := by simpa using hgo
              have hd1 : decide ((out.length : Int) < (b : Int)) = true := decide_eq_true (by omega)
              have hd2 : decide (out.length < b) = true := decide_eq_true (by omega)
              clear hgo HGO hlo hCo
              go_wp2
              go_ret3
              exact ⟨⟨_, by rw [show (W.length : Int) = (k : Int) + 1 by omega]; rfl, Kd.N_nil _ _ _ _ _⟩, hbw.out⟩
          · have hgo := HGO.out
            rw [if_neg (fun h => hx h.1)] at hgo
            obtain ⟨rfl, rfl, rfl⟩ : R1 = [] ∧ R2 = 2 ∧ R3 = (k : Int) + 1 := by simpa using hgo
            have hxb : (x == []) = false := by simpa using hx
            clear hgo HGO hlo hCo
            go_wp2
            go_ret3
            exact ⟨⟨_, by rw [show (W.length : Int) = (k : Int) + 1 by omega]; rfl, Kd.N_nil _ _ _ _ _⟩, hbw.out⟩
end Go.Proofs.YtnknoaolbjofiaaDoor.Cl
