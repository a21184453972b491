/- For the statement of the row ClauseParses: what its proof needs of the text ClParses14. -/
import Derived.Test.YtnknoaolbjofiaaDoorPClRefR
import Derived.Test.YtnknoaolbjofiaaDoorPClParse
import Derived.Test.YtnknoaolbjofiaaDoorPClBackP

set_option linter.unusedVariables false
set_option linter.unusedSimpArgs false
namespace Go.Proofs.YtnknoaolbjofiaaDoor.Cl
open Go.RowKit Go.Proofs.YtnknoaolbjofiaaDoorW.PrintWords Go.Proofs.YtnknoaolbjofiaaDoorW.PrintLast Go.Proofs.YtnknoaolbjofiaaDoorW.PrintMore
open Go.Proofs.YtnknoaolbjofiaaDoor.X
theorem rsame_calls (A : Option Addr) (c0 : Nat) (a : List (List Int)) (B : Option Addr) (c1 : Nat) (b : List (List Int)) (w : World) (hr0 : KRd.C w A a.length a) (hc0 : a.length ≤ c0) (hr1 : KRd.C w B b.length b) (hc1 : b.length ≤ c1) (ha : Fine a) (hb : Fine b) :
    Calls Tryd.prog 29 #[.slice A a.length c0, .slice B b.length c1] w fun e w' => e = .returned (.bool (decide (a = b))) ∧ ∃ n, w' = w.drewN n := by
  obtain ⟨k, hk⟩ := (rsame_ev ha hb).rounds
  exact (backreachref14_Same.calls k A c0 a B c1 b _ w hr0 hc0 hr1 hc1 hk).mono fun e w' ⟨he, hd⟩ => ⟨he, hd.out⟩
theorem rparse_calls (l : List UInt8) (hsz : l.length ≤ 1000000000) (w : World) :
    Calls Tryd.prog 28 #[.string ⟨l.toArray⟩] w fun e w' => ∃ val, e = .returned (.tuple #[val, .int .i64 (parseP l).2.1, .int .i64 (parseP l).2.2]) ∧ Kd.S KRd 23 w' w.heap.size (fun _ => True) val (parseP l).1 ∧ Below w.heap.size w w' := by
  obtain ⟨k, hk⟩ := (rparse_ev l hsz).rounds
  exact backreachref14_Parse.calls k ⟨l.toArray⟩ _ _ _ w hk
set_option maxRecDepth 100000 in
set_option maxHeartbeats 8000000 in
theorem parses14_law (l : List UInt8) (w : World) (hL : Libs w) :
    Calls Tryd.prog 8 #[.string ⟨l.toArray⟩] w fun e w' => e = .returned (.bool true) ∧ Below w.heap.size w w' := by
  have haw := awake14_calls w hL.tab
  have HAW := Lib.hid haw
  have HL := Lib.hid hL
  have hsize : (⟨l.toArray⟩ : ByteArray).size = l.length := by simp [ByteArray.size]
  have HSIZE := Lib.hid hsize
  clear haw hL hsize
  go_enter Tryd.func8, Tryd.ntmps8
  go_wp2_with fail
  refine HAW.out.mono ?_
  rintro e w1 ⟨rfl, hb1⟩
  have HB1 := Aside0.mk hb1
  clear hb1 HAW
  by_cases h3 : l.length > 3000
  · have h3b : decide ((l.length : Int) > 3000) = true := decide_eq_true (by omega)
    have h3c : decide (3000 < l.length) = true := decide_eq_true (by omega)
    clear h3
    go_wp2
    go_ret
    exact ⟨rfl, HB1.out⟩
  have h3b : decide ((l.length : Int) > 3000) = false := decide_eq_false (by omega)
  have h3c : decide (3000 < l.length) = false := decide_eq_false (by omega)
  have hp := parse_calls l (by omega)
  have hrp := rparse_calls l (by omega)
  obtain ⟨R, e1, e2, hR⟩ : ∃ R e1 e2, parseP l = (R, e1, e2) := ⟨_, _, _, rfl⟩
  rw [hR] at hp hrp
  have hsz := parse_size hR
  have hfine : Fine R := ⟨by omega, fun c hc => by have := hsz.2 c hc; omega⟩
  have HFINE := Lib.hid hfine
  have HP := Lib.hid hp
  have HRP := Lib.hid hrp
  clear h3 hp hrp hR hsz hfine
  go_wp2_with fail
  refine (HP.out _ (HL.out.below HB1.out)).mono ?_
  rintro e w2 ⟨⟨v2, rfl, hN2⟩, hb2⟩
  have HB2 := Aside0.mk (below_then HB1.out HB1.out.size hb2)
  have HN2 := Aside0.mk hN2
  clear hb2 HB1 hN2 HP
  go_wp2_with fail
  refine (HRP.out _).mono ?_
  rintro e w3 ⟨v3, rfl, hS3, hb3⟩
  have HN3 := Aside0.mk (Kd.N_below HN2.out hb3)
  have HB3 := Aside0.mk (below_then HB2.out HB2.out.size hb3)
  obtain ⟨A2, c2, rfl, hl2, hC2⟩ := Kd.N_reads HN3.out
  obtain ⟨A3, c3, rfl, hl3, hC3⟩ := Kd.S_reads hS3
  have hsm := rsame_calls A2 c2 R A3 c3 R w3 hC2 hl2 hC3 hl3 HFINE.out HFINE.out
  rw [decide_eq_true rfl] at hsm
  have HSM := Lib.hid hsm
  clear hS3 hb3 HB2 HN2 HN3 hl2 hC2 hl3 hC3 hsm HRP
  generalize R.length = len at *
  go_wp2_with fail
  refine HSM.out.mono ?_
  rintro e w4 ⟨rfl, nd4, rfl⟩
  go_wp2
  go_ret
  exact ⟨by simp, pw_below_drewN HB3.out _⟩
end Go.Proofs.YtnknoaolbjofiaaDoor.Cl
