/- For the statement of the row ClauseBack: what its proof needs of the text ClText. -/
import Derived.Test.YtnknoaolbjofiaaDoorKClTextP
import Derived.Test.YtnknoaolbjofiaaDoorKShelf2
import Derived.Lib.SmallJoins

set_option linter.unusedVariables false
set_option linter.unusedSimpArgs false
namespace Go.Proofs.YtnknoaolbjofiaaDoor.Cl
open Go.RowKit Go.Proofs.YtnknoaolbjofiaaDoorW.PrintWords Go.Proofs.YtnknoaolbjofiaaDoorW.PrintLast Go.Proofs.YtnknoaolbjofiaaDoorW.PrintMore
/-- What of the library's variables is asked for. -/
structure Libs (w : World) : Prop where
  tab : Tab w
  maxlen : ∃ m, w.cell? ⟨1, 0, none⟩ = some (.int .i64 m)
  syn : ∃ te pe, w.cell? ⟨4, 0, none⟩ = some (.iface te pe)
  rng : ∃ te pe, w.cell? ⟨5, 0, none⟩ = some (.iface te pe)
theorem Libs.below {w W : World} (h : Libs w) (hb : Below w.heap.size w W) : Libs W := by
  obtain ⟨h1, ⟨m, h2⟩, ⟨a, b, h3⟩, ⟨c, d, h4⟩⟩ := h
  exact ⟨(Lib.tabBelow_of_tabIs h1) W hb, ⟨m, pw_cell_below hb h2⟩, ⟨a, b, pw_cell_below hb h3⟩, ⟨c, d, pw_cell_below hb h4⟩⟩
/-- A number of a word, from lo to hi. -/
def numB (lo hi : Int) (w : List UInt8) : Bool := match numP w with
  | some n => decide (lo ≤ n) && decide (n ≤ hi)
  | none => false
theorem numB_ok {lo hi v : Int} {l : List UInt8} (h : Lib.atoiAll l = .ok v) : numB lo hi l = (decide (Lib.itoa v = l) && (decide (lo ≤ v) && decide (v ≤ hi))) := by
  unfold numB numP
  rw [h]
  simp only []
  by_cases e : Lib.itoa v = l
  · rw [if_pos e, decide_eq_true e, Bool.true_and]
  · rw [if_neg e, decide_eq_false e, Bool.false_and]
theorem numB_bad {lo hi : Int} {l : List UInt8} (h : ∀ v, Lib.atoiAll l ≠ .ok v) : numB lo hi l = false := by
  unfold numB numP
  cases e : Lib.atoiAll l with
  | ok v => exact absurd e (h v)
  | range => rfl
  | _ => rfl
theorem str_eq (a b : List UInt8) : ((⟨a.toArray⟩ : ByteArray) == ⟨b.toArray⟩) = decide (a = b) := by
  show ((a.toArray : Array UInt8) == b.toArray) = _
  rw [Bool.eq_iff_iff]
  simp
set_option maxRecDepth 100000 in
set_option maxHeartbeats 4000000 in
theorem number_calls (l : List UInt8) (hsz : l.length ≤ 1000000000) (lo hi : Int) (w : World) (hL : Libs w) :
    Calls Tryd.prog 59 #[.string ⟨l.toArray⟩, .int .i64 lo, .int .i64 hi] w fun e w' => (∃ n, e = .returned (.tuple #[.int .i64 n, .bool (numB lo hi l)]) ∧ (numB lo hi l = true → numP l = some n)) ∧ Below w.heap.size w w' := by
  have hsize : (⟨l.toArray⟩ : ByteArray).size = l.length := by simp [ByteArray.size]
  have hdata : (⟨l.toArray⟩ : ByteArray).data.toList = l := by simp
  cases he : Lib.atoiAll l with
  | ok v =>
    have hb := Lib.atoiAll_bounds he
    have hat := Tryd.strconv_Atoi_ok ⟨l.toArray⟩ (by omega) v (by rw [hdata]; exact he) w
    have hnb := numB_ok (lo := lo) (hi := hi) he
    have hnp : numB lo hi l = true → numP l = some v := fun h => by
      rw [hnb, Bool.and_eq_true] at h
      unfold numP
      rw [he]
      simp only []
      rw [if_pos (by simpa using h.1)]
    have hse := str_eq (Lib.itoa v) l
    have HAT := Lib.hid hat
    have HNP := Lib.hid hnp
    have HNB := Lib.hid hnb
    have HL := Lib.hid hL
    have HB := Aside0.mk hb
    have HSE := Lib.hid hse
    clear hat hnp hnb hL he hsize hdata hb hse
    go_enter Tryd.func59, Tryd.ntmps59
    go_wp2_with fail
    refine HAT.out.mono ?_
    rintro e w1 ⟨rfl, hw1⟩
    have HB1 : Aside0 (Below w.heap.size w w1) := ⟨by
      rcases hw1 with rfl | ⟨t, rfl⟩
      · exact Below.refl _ _
      · exact Lib.bytesWorld_below _ _ _⟩
    clear hw1 HAT
    go_wp2_with fail
    refine (itoa_calls v HB.out.1 HB.out.2 HL.out.tab HB1.out).mono ?_
    rintro e w2 ⟨rfl, hb2⟩
    have HB2 := Aside0.mk (below_then HB1.out HB1.out.size hb2)
    clear hb2 HB1
    go_wp2
    all_goals
      go_ret2
      exact ⟨⟨v, by rw [HNB.out]; first | (simp [*]; done) | (simp [*]; omega), HNP.out⟩, HB2.out⟩
  | range =>
    have hnb := numB_bad (lo := lo) (hi := hi) (l := l) (fun v h => by rw [he] at h; cases h)
    obtain ⟨te, pe, hv⟩ := hL.rng
    have hat := Tryd.strconv_Atoi_range ⟨l.toArray⟩ (by omega) (by rw [hdata]; exact he) _ w hv (.inr ⟨te, pe, rfl⟩)
    have HAT := Lib.hid hat
    rw [hnb]
    clear hat hL he hsize hdata hv hnb
    go_enter Tryd.func59, Tryd.ntmps59
    go_wp2_with fail
    refine HAT.out.mono ?_
    rintro e w1 ⟨N, rfl, _, _, hb1⟩
    have HB1 := Aside0.mk hb1
    clear hb1 HAT
    go_wp2
    go_ret2
    exact ⟨⟨_, rfl, fun h => by cases h⟩, HB1.out⟩
  | _ =>
    have hnb := numB_bad (lo := lo) (hi := hi) (l := l) (fun v h => by rw [he] at h; cases h)
    obtain ⟨te, pe, hv⟩ := hL.syn
    have hat := Tryd.strconv_Atoi_syntax ⟨l.toArray⟩ (by omega) (by rw [hdata, he]; intro v h; cases h) (by rw [hdata, he]; intro h; cases h) _ w hv (.inr ⟨te, pe, rfl⟩)
    have HAT := Lib.hid hat
    rw [hnb]
    clear hat hL he hsize hdata hv hnb
    go_enter Tryd.func59, Tryd.ntmps59
    go_wp2_with fail
    refine HAT.out.mono ?_
    rintro e w1 ⟨N, rfl, _, _, hb1⟩
    have HB1 := Aside0.mk hb1
    clear hb1 HAT
    go_wp2
    go_ret2
    exact ⟨⟨_, rfl, fun h => by cases h⟩, HB1.out⟩
end Go.Proofs.YtnknoaolbjofiaaDoor.Cl
