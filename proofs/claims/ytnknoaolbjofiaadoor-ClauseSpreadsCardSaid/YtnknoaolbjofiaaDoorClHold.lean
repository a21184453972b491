/- spreader.hold: a literal is true, or its opposite is. -/
import Derived.Test.YtnknoaolbjofiaaDoorProg
import Derived.Test.YtnknoaolbjofiaaDoorClSpec
import Derived.Test.YtnknoaolbjofiaaDoorClGroups
import Derived.KernelRfl
import Derived.Tactics
import Derived.OneCell
import Derived.Lib.Hide
set_option linter.unusedVariables false
set_option linter.unusedSimpArgs false
namespace Go.Proofs.YtnknoaolbjofiaaDoor.Cl
open Go.RowKit Go.Maps

theorem im : IntMap Tryd.prog 3 56 := ⟨Tryd.underlying3, Tryd.underlying56, fun _ => by kernel_rfl⟩
theorem gm : GroupMap Tryd.prog 3 23 55 := ⟨Tryd.underlying3, Tryd.underlying55, fun _ => by kernel_rfl⟩

/-- A spreader in block g. -/
def SpBlk (w : World) (g : Nat) (lv : Value) (bi bs bw : Nat) : Prop := w.heap[g]? = some (.cells #[lv, .map (some bi), .map (some bs), .map (some bw)] 58 (0, 0))
theorem SpBlk.c0 {w : World} {g bi bs bw : Nat} {lv : Value} (h : SpBlk w g lv bi bs bw) : w.cell? ⟨g, 0, none⟩ = some lv := by unfold SpBlk at h; simp [World.cell?, h]
theorem SpBlk.c1 {w : World} {g bi bs bw : Nat} {lv : Value} (h : SpBlk w g lv bi bs bw) : w.cell? ⟨g, 1, none⟩ = some (.map (some bi)) := by unfold SpBlk at h; simp [World.cell?, h]
theorem SpBlk.c2 {w : World} {g bi bs bw : Nat} {lv : Value} (h : SpBlk w g lv bi bs bw) : w.cell? ⟨g, 2, none⟩ = some (.map (some bs)) := by unfold SpBlk at h; simp [World.cell?, h]
theorem SpBlk.c3 {w : World} {g bi bs bw : Nat} {lv : Value} (h : SpBlk w g lv bi bs bw) : w.cell? ⟨g, 3, none⟩ = some (.map (some bw)) := by unfold SpBlk at h; simp [World.cell?, h]
theorem SpBlk.at_ {w w1 : World} {g bi bs bw : Nat} {lv : Value} (h : SpBlk w g lv bi bs bw) (he : w1.heap[g]? = w.heap[g]?) : SpBlk w1 g lv bi bs bw := he.trans h
theorem SpBlk.lt {w : World} {g bi bs bw : Nat} {lv : Value} (h : SpBlk w g lv bi bs bw) : g < w.heap.size := lt_of_block h

/-- Nothing but the blocks of which S tells has turned. -/
structure Fr (w w' : World) (S : Nat → Prop) : Prop where
  os : w'.os = w.os
  tape : w'.tape = w.tape
  output : w'.output = w.output
  size : w.heap.size ≤ w'.heap.size
  block : ∀ i, i < w.heap.size → ¬ S i → w'.heap[i]? = w.heap[i]?
theorem Fr.refl (w : World) (S : Nat → Prop) : Fr w w S := ⟨rfl, rfl, rfl, Nat.le_refl _, fun _ _ _ => rfl⟩
theorem Fr.trans {a b c : World} {S : Nat → Prop} (h : Fr a b S) (k : Fr b c S) : Fr a c S :=
  ⟨k.os.trans h.os, k.tape.trans h.tape, k.output.trans h.output, Nat.le_trans h.size k.size, fun i hi hn => (k.block i (Nat.lt_of_lt_of_le hi h.size) hn).trans (h.block i hi hn)⟩
theorem Fr.of_grown {w w' : World} {row : Option Nat} {S : Nat → Prop} (h : w.grownBy w' row) (hS : ∀ j, row = some j → j < w.heap.size → S j) : Fr w w' S :=
  ⟨h.os, h.tape, h.output, h.size, fun i hi hn => h.block i hi fun e => hn (hS i e.symm hi)⟩
theorem Fr.of_turned {w w' : World} {b : Nat} {S : Nat → Prop} (h : w.mapTurned w' b) (hS : S b) : Fr w w' S := Fr.of_grown h.grown fun j e _ => by cases e; exact hS
theorem Fr.mono {w w' : World} {S S' : Nat → Prop} (h : Fr w w' S) (hS : ∀ i, i < w.heap.size → S i → S' i) : Fr w w' S' := ⟨h.os, h.tape, h.output, h.size, fun i hi hn => h.block i hi fun hs => hn (hS i hi hs)⟩
theorem Fr.below {w0 w w' : World} {B : Nat} {S : Nat → Prop} (h : Fr w w' S) (hb : Below B w0 w) (hB : B ≤ w.heap.size) (hS : ∀ i, S i → B ≤ i) : Below B w0 w' :=
  hb.trans ⟨h.os, h.tape, h.output, h.size, fun k hk => h.block k (by omega) fun hs => by have := hS k hs; omega⟩

theorem wf_lit {x : Int} (h1 : -1048576 ≤ x) (h2 : x ≤ 1048576) : wfI x := WalkArith.wf_i64 (by omega)

theorem turned_other {w w1 : World} {b i : Nat} (h : w.mapTurned w1 b) (hne : i ≠ b) (hlt : i < w.heap.size) : w1.heap[i]? = w.heap[i]? := h.grown.block i hlt (fun e => hne (by cases e; rfl))

theorem SpBlk.ne_map {w : World} {g bi bs bw : Nat} {lv : Value} (h : SpBlk w g lv bi bs bw) {b : Nat} {es : Array MapEntry} {c : Nat} (hb : w.heap[b]? = some (.map es c)) : g ≠ b := by
  rintro rfl
  unfold SpBlk at h
  rw [h] at hb
  cases hb

set_option maxHeartbeats 1000000 in
/-- Its opposite is true already. -/
theorem hold_no {w : World} {g bi bs bw : Nat} {lv : Value} {S : List Int} {x : Int} (hg : SpBlk w g lv bi bs bw) (hS : IsSet Tryd.prog 3 w bs S) (h1 : -1048576 ≤ x) (h2 : x ≤ 1048576) (hn : S.contains (-x) = true) :
    Calls Tryd.prog 31 #[.pointer (some ⟨g, 0, none⟩), .int .i64 x] w fun e w' => e = .returned (.bool false) ∧ w' = w := by
  obtain ⟨c, hl⟩ := hS.look im (x := -x) (wf_lit (by omega) (by omega))
  rw [hn] at hl
  have hc2 := hg.c2
  clear hS hn
  go_enter Tryd.func31, Tryd.ntmps31
  go_wp2
  go_ret
  exact ⟨rfl, rfl⟩

set_option maxHeartbeats 1000000 in
/-- It is true already. -/
theorem hold_old {w : World} {g bi bs bw : Nat} {lv : Value} {S : List Int} {x : Int} (hg : SpBlk w g lv bi bs bw) (hS : IsSet Tryd.prog 3 w bs S) (h1 : -1048576 ≤ x) (h2 : x ≤ 1048576) (hn : S.contains (-x) = false) (ho : S.contains x = true) :
    Calls Tryd.prog 31 #[.pointer (some ⟨g, 0, none⟩), .int .i64 x] w fun e w' => e = .returned (.bool true) ∧ w' = w := by
  obtain ⟨c, hl⟩ := hS.look im (x := -x) (wf_lit (by omega) (by omega))
  obtain ⟨c', hl'⟩ := hS.look im (x := x) (wf_lit (by omega) (by omega))
  rw [hn] at hl
  rw [ho] at hl'
  have hc2 := hg.c2
  clear hS hn ho
  go_enter Tryd.func31, Tryd.ntmps31
  go_wp2
  go_ret
  exact ⟨rfl, rfl⟩

set_option maxHeartbeats 1000000 in
/-- It is new. -/
theorem hold_new {w : World} {g bi bs bw : Nat} {lv : Value} {S W : List Int} {x : Int} (hg : SpBlk w g lv bi bs bw) (hS : IsSet Tryd.prog 3 w bs S) (hW : IsSet Tryd.prog 3 w bw W) (hne : bs ≠ bw) (hlS : S.length < 9223372036854775807) (hlW : W.length < 9223372036854775807)
    (h1 : -1048576 ≤ x) (h2 : x ≤ 1048576) (hn : S.contains (-x) = false) (ho : S.contains x = false) (hw : W.contains x = false) :
    Calls Tryd.prog 31 #[.pointer (some ⟨g, 0, none⟩), .int .i64 x] w fun e w' => e = .returned (.bool true) ∧ (IsSet Tryd.prog 3 w' bs (x :: S) ∧ IsSet Tryd.prog 3 w' bw (x :: W) ∧ Fr w w' (fun i => i = bs ∨ i = bw)) := by
  obtain ⟨c, hl⟩ := hS.look im (x := -x) (wf_lit (by omega) (by omega))
  obtain ⟨c', hl'⟩ := hS.look im (x := x) (wf_lit (by omega) (by omega))
  rw [hn] at hl
  rw [ho] at hl'
  obtain ⟨w1, hr1, hS1, ht1⟩ := hS.store im (x := x) (c := 1) (wf_lit (by omega) (by omega)) (wf_lit (by omega) (by omega)) ho hlS
  have hgw : g ≠ bs := by obtain ⟨es, cl, hb⟩ := hS.block; exact hg.ne_map hb
  have hW1 : IsSet Tryd.prog 3 w1 bw W := hW.at_ (turned_other ht1 (Ne.symm hne) hW.lt)
  have hg1 : SpBlk w1 g lv bi bs bw := hg.at_ (turned_other ht1 hgw hg.lt)
  obtain ⟨w2, hr2, hW2, ht2⟩ := hW1.store im (x := x) (c := 1) (wf_lit (by omega) (by omega)) (wf_lit (by omega) (by omega)) hw hlW
  have hS2 : IsSet Tryd.prog 3 w2 bs (x :: S) := hS1.at_ (turned_other ht2 hne hS1.lt)
  have hend := Lib.hid (show IsSet Tryd.prog 3 w2 bs (x :: S) ∧ IsSet Tryd.prog 3 w2 bw (x :: W) ∧ Fr w w2 (fun i => i = bs ∨ i = bw) from ⟨hS2, hW2, (Fr.of_turned ht1 (.inl rfl)).trans (Fr.of_turned ht2 (.inr rfl))⟩)
  have hc2 := hg.c2
  have hc3 := hg1.c3
  clear hS hn ho hw hS1 hW1 hg1 hW2 hS2 ht1 ht2 hgw hne hW hg
  go_enter Tryd.func31, Tryd.ntmps31
  go_wp2
  go_ret
  exact ⟨rfl, hend.out⟩
end Go.Proofs.YtnknoaolbjofiaaDoor.Cl
