/- clause.Spread: the walk. -/
import Derived.Test.YtnknoaolbjofiaaDoorClRun
import Derived.Test.YtnknoaolbjofiaaDoorClRight
import Derived.Test.YtnknoaolbjofiaaDoorClSorted
import Derived.Deep.RegionHeld3
import Derived.Deep.AppendLies
import Derived.Laws.Rows
import Derived.Test.YtnknoaolbjofiaaDoorWLast
set_option linter.unusedVariables false
set_option linter.unusedSimpArgs false
namespace Go.Proofs.YtnknoaolbjofiaaDoor.Cl
open Go.RowKit Go.Maps Go.Proofs.YtnknoaolbjofiaaDoorW.PrintWords Go.Proofs.YtnknoaolbjofiaaDoorW.PrintLast

theorem info3 : (Tryd.prog.info? 3).map (fun i => (i.zero, i.size, i.bytes)) = some (some (.int .i64 0), 1, 8) := by kernel_rfl

/-- What a call of 'Spread' comes to. -/
def SpreadPost (l : List (List Int)) (fr : List Int) (w : World) (e : Ending) (w' : World) : Prop :=
  ∃ v : Value, e = .returned (.tuple #[v, .bool (spread l fr).2]) ∧ Kd.R (Kd.int .i64) 3 w' w.heap.size (fun _ => True) v (spread l fr).1 ∧ Below w.heap.size w w'

theorem spreadPost_fail {l : List (List Int)} {fr : List Int} {w w' : World} (h : spread l fr = ([], false)) (hb : Below w.heap.size w w') : SpreadPost l fr w (.returned (.tuple #[.slice none 0 0, .bool false])) w' :=
  ⟨.slice none 0 0, by rw [h], by rw [h]; exact Kd.R_nil _ _ _ _ _, hb⟩

/-- One list as a list of lists. -/
theorem one_row {w : World} {A : Option Addr} {c : List Int} {cap : Nat} (h : Kd.C (Kd.int .i64) w A c.length c) (hcap : c.length ≤ cap) {b : Nat} {w1 : World} (hb : Below w.heap.size w w1) (hc : w1.cell? ⟨b, 0, none⟩ = some (.slice A c.length cap)) :
    Kd.C (Kd.slice 3 (Kd.int .i64)) w1 (some ⟨b, 0, none⟩) 1 [c] := by
  refine ⟨rfl, by omega, fun _ => ⟨_, rfl, fun j p hj => ?_⟩⟩
  have h0 : j = 0 ∧ p = c := by
    cases j with
    | zero => exact ⟨rfl, by simpa using hj.symm⟩
    | succ j => simp at hj
  obtain ⟨rfl, rfl⟩ := h0
  refine ⟨[.slice A p.length cap], rfl, ⟨A, cap, rfl, hcap, Kd.C_below h hb⟩, fun i u hi => ?_⟩
  cases i with
  | zero =>
    obtain rfl : u = .slice A p.length cap := by simpa using hi.symm
    rw [show 0 * (Kd.slice 3 (Kd.int .i64)).sz + 0 = 0 from rfl, add_plain]
    exact hc
  | succ i => simp at hi

theorem length_isort : ∀ xs : List Int, (isort xs).length = xs.length
  | [] => rfl
  | x :: r => by
    have h : ∀ l : List Int, (ins x l).length = l.length + 1 := by
      intro l
      induction l with
      | nil => rfl
      | cons y l ih =>
        unfold ins
        split
        · rfl
        · simp [ih]
    rw [isort, h, length_isort r, List.length_cons]
/-- What follows was given, or stands in a clause. -/
theorem der_src {l : List (List Int)} {fr : List Int} (h1 : lRight l = true) (h2 : cRight fr = true) {x : Int} (h : Der l fr x) : x ∈ fr ++ flat l :=
  h (fun x => x ∈ fr ++ flat l) (fun z hz => by simp [hz]) (fun c hc z hz _ => by
    exact List.mem_append.2 (.inr (mem_flat.2 ⟨c, hc, hz⟩)))
theorem inAt_next1 {l : List (List Int)} {k j : Nat} (h : j < (row l k).length) (x : Int) : inAt l k (j + 1) x = if x = rd (row l k) j then inAt l k j (rd (row l k) j) ++ [(k : Int)] else inAt l k j x := by
  rw [inAt_step h x, show rd (row l k) j = (row l k).getD j 0 by simp [rd]]
  by_cases e : x = (row l k).getD j 0
  · rw [if_pos e, if_pos e, e]
  · rw [if_neg e, if_neg e]
theorem total_snoc {l : List (List Int)} : ∀ {k : Nat}, k < l.length → total (l.take (k + 1)) = total (l.take k) + (row l k).length := by
  induction l with
  | nil => intro k h; simp at h
  | cons c l ih =>
    intro k h
    cases k with
    | zero => simp [total, row]
    | succ k =>
      have := ih (k := k) (by simpa using h)
      simp [total, row] at *
      omega

/-- The world in which a spreader has been made, and both lists have been looked at. -/
def spWorld (w : World) (lv : Value) (nd : Nat) (o : Obj) (nd2 : Nat) : World :=
  ((((((w.alloc (.map #[] 0)).alloc (.map #[] 0)).alloc (.map #[] 0)).alloc (.cells #[lv, .map (some w.heap.size), .map (some (w.heap.size + 1)), .map (some (w.heap.size + 1 + 1))] 58)).drewN nd).alloc o).drewN nd2
theorem heap_new (w : World) (o : Obj) : (w.alloc o).heap[w.heap.size]? = some o := by
  show (w.heap.push o)[w.heap.size]? = some o
  simp
theorem heap_old {w : World} {o o' : Obj} {k : Nat} (h : w.heap[k]? = some o') : (w.alloc o).heap[k]? = some o' := by
  rw [Below.heap_alloc _ _ _ (lt_of_block h)]; exact h
theorem size_alloc (w : World) (o : Obj) : (w.alloc o).heap.size = w.heap.size + 1 := by
  show (w.heap.push o).size = _
  simp
theorem spStart (w : World) (lv : Value) (nd : Nat) (o : Obj) (nd2 : Nat) : SpW (spWorld w lv nd o nd2) (w.heap.size + 1 + 1 + 1) lv w.heap.size (w.heap.size + 1) (w.heap.size + 1 + 1) (w.heap.size + 4) 0 (fun _ => []) [] [] ∧ Below w.heap.size w (spWorld w lv nd o nd2) ∧ w.heap.size + 5 ≤ (spWorld w lv nd o nd2).heap.size := by
  have hsz : (spWorld w lv nd o nd2).heap.size = w.heap.size + 5 := by
    show (World.alloc _ _).heap.size = _
    rw [size_alloc]
    show (World.alloc _ _).heap.size + 1 = _
    rw [size_alloc, size_alloc, size_alloc, size_alloc]
  have e1 := size_alloc w (.map #[] 0)
  have e2 : ((w.alloc (.map #[] 0)).alloc (.map #[] 0)).heap.size = w.heap.size + 1 + 1 := by rw [size_alloc, e1]
  have e3 : (((w.alloc (.map #[] 0)).alloc (.map #[] 0)).alloc (.map #[] 0)).heap.size = w.heap.size + 1 + 1 + 1 := by rw [size_alloc, e2]
  refine ⟨⟨?_, ?_, ?_, ?_, by omega, by omega, by omega⟩, ?_, by omega⟩
  · unfold SpBlk
    refine heap_old (w := World.drewN _ nd) ?_
    have h := heap_new (((w.alloc (.map #[] 0)).alloc (.map #[] 0)).alloc (.map #[] 0)) (.cells #[lv, .map (some w.heap.size), .map (some (w.heap.size + 1)), .map (some (w.heap.size + 1 + 1))] 58)
    rw [e3] at h
    exact h
  · exact (((((((HasRows.made w 3 (base := w.heap.size + 4) (by omega)).alloc _).alloc _).alloc _).drewN nd).alloc _).drewN nd2)
  · have h := IsSet.made (P := Tryd.prog) (kt := 3) (w.alloc (.map #[] 0))
    rw [e1] at h
    exact (((((h.alloc _).alloc _).drewN nd).alloc _).drewN nd2)
  · have h := IsSet.made (P := Tryd.prog) (kt := 3) ((w.alloc (.map #[] 0)).alloc (.map #[] 0))
    rw [e2] at h
    exact ((((h.alloc _).drewN nd).alloc _).drewN nd2)
  · unfold spWorld
    repeat (first | exact Below.refl _ _ | apply below_alloc | apply pw_below_drewN)

set_option maxRecDepth 100000 in
set_option maxHeartbeats 4000000 in
theorem spread_wrong1 (A : Option Addr) (cap : Nat) (l : List (List Int)) (B : Option Addr) (bcap : Nat) (fr : List Int) (w : World) (hC : Kd.C (Kd.slice 3 (Kd.int .i64)) w A l.length l) (hcap : l.length ≤ cap) (hF : Kd.C (Kd.int .i64) w B fr.length fr) (hbcap : fr.length ≤ bcap)
    (h : lRight l = false) : Calls Tryd.prog 12 #[.slice A l.length cap, .slice B fr.length bcap] w (SpreadPost l fr w) := by
  have HC := Aside0.mk hC
  have hpost := Lib.hid (spread_wrong (l := l) (fr := fr) (by rw [h]; rfl))
  have hcon := fun W (hb : Below w.heap.size w W) => right_calls A cap l W (Kd.C_below HC.out hb) hcap
  rw [h] at hcon
  have HCON := Lib.hid hcon
  have hmm := @run_makeMap Tryd.prog
  clear hC hF h hcon
  go_enter Tryd.func12, Tryd.ntmps12
  go_wp2_with (go_at_call 18; refine (HCON.out _ (by repeat (first | exact Below.refl _ _ | apply below_alloc))).mono ?_; rintro e w' ⟨rfl, nd, rfl⟩)
  go_ret2
  exact spreadPost_fail hpost.out (by repeat (first | exact Below.refl _ _ | apply below_alloc | apply pw_below_drewN))

set_option maxRecDepth 100000 in
set_option maxHeartbeats 4000000 in
theorem spread_wrong2 (A : Option Addr) (cap : Nat) (l : List (List Int)) (B : Option Addr) (bcap : Nat) (fr : List Int) (w : World) (hC : Kd.C (Kd.slice 3 (Kd.int .i64)) w A l.length l) (hcap : l.length ≤ cap) (hF : Kd.C (Kd.int .i64) w B fr.length fr) (hbcap : fr.length ≤ bcap)
    (h1 : lRight l = true) (h : cRight fr = false) : Calls Tryd.prog 12 #[.slice A l.length cap, .slice B fr.length bcap] w (SpreadPost l fr w) := by
  have HC := Aside0.mk hC
  have HF := Aside0.mk hF
  have hpost := Lib.hid (spread_wrong (l := l) (fr := fr) (by rw [h, Bool.and_false]))
  have hcon := fun W (hb : Below w.heap.size w W) => right_calls A cap l W (Kd.C_below HC.out hb) hcap
  rw [h1] at hcon
  have HCON := Lib.hid hcon
  have hcon2 := fun W b (hb : Below w.heap.size w W) (hc : W.cell? ⟨b, 0, none⟩ = some (.slice B fr.length bcap)) => (right_calls (some ⟨b, 0, none⟩) 1 [fr] W (one_row HF.out hbcap hb hc) (by simp))
  simp only [List.length_cons, List.length_nil, Nat.zero_add] at hcon2
  rw [show lRight [fr] = false by simp [lRight, h]] at hcon2
  have HCON2 := Lib.hid hcon2
  have hmm := @run_makeMap Tryd.prog
  clear hC hF h hcon hcon2 h1
  go_enter Tryd.func12, Tryd.ntmps12
  go_wp2_with fail
  refine (HCON.out _ (by repeat (first | exact Below.refl _ _ | apply below_alloc))).mono ?_
  rintro e w' ⟨rfl, nd, rfl⟩
  go_wp2_with fail
  refine (HCON2.out _ _ ?hb ?hc).mono ?_
  case hb => repeat (first | exact Below.refl _ _ | apply below_alloc | apply pw_below_drewN)
  case hc => go_simp
  rintro e w' ⟨rfl, nd2, rfl⟩
  go_wp2
  go_ret2
  exact spreadPost_fail hpost.out (by repeat (first | exact Below.refl _ _ | apply below_alloc | apply pw_below_drewN))

/-- A clause's number more, in the map: what the append and the store leave. -/
theorem in_step {wr W' w1 : World} {g bi bs bw base n k gg cap1 : Nat} {lv v : Value} {G : Int → List Int} {S W : List Int} {x : Int} (hoi : wr.ownsInts base 3 .i64 v (G x)) (hsw : SpW wr g lv bi bs bw base n G S W)
    (hgrow : W'.grownBy w1 v.ownBlock) (hsz : wr.heap.size + 1 = W'.heap.size) (hst : ∀ i, i < wr.heap.size → W'.heap[i]? = wr.heap[i]?) (e1 : W'.os = wr.os) (e2 : W'.tape = wr.tape) (e3 : W'.output = wr.output)
    (hown1 : w1.ownsRow base 3 1 (.slice (some ⟨gg, 0, none⟩) ((G x).length + 1) cap1) ((G x).length + 1) ((G x).map (Value.int .i64) ++ [.int .i64 (k : Int)])) (hat : v.ownBlock = some gg ∨ gg = wr.heap.size + 1)
    (hlk : ∀ W : World, W.heap[bi]? = wr.heap[bi]? → (Instr.lookup 55 (.map (some bi)) (.int .i64 x) false).run Tryd.prog W = .ok v W)
    (hback : ∀ (w1 : World) (v' : Value) (zs' : List Int), wr.grownBy w1 v.ownBlock → w1.ownsInts base 3 .i64 v' zs' → zs'.length ≤ n + 1 → (v'.ownBlock = v.ownBlock ∨ ∃ g, v'.ownBlock = some g ∧ wr.heap.size ≤ g) →
        ∃ w2, (Instr.mapUpdate 55 (.map (some bi)) (.int .i64 x) v').run Tryd.prog w1 = .ok () w2 ∧ HasRows Tryd.prog 3 w2 base bi (n + 1) (fun y => if y = x then zs' else G y) ∧ w1.grownBy w2 (some bi))
    (hvl : (G x).length ≤ n) (hk : k < 4611686018427387904 := by omega) (hb1 : bs < base := by omega) (hb2 : bw < base := by omega) (hb3 : g < base := by omega) (hb4 : bi < base := by omega) :
    ∃ w2, (Instr.mapUpdate 55 (.map (some bi)) (.int .i64 x) (.slice (some ⟨gg, 0, none⟩) ((G x).length + 1) cap1)).run Tryd.prog w1 = .ok () w2 ∧ w1.cell? ⟨g, 1, none⟩ = some (.map (some bi)) ∧
      (Instr.lookup 55 (.map (some bi)) (.int .i64 x) false).run Tryd.prog w1 = .ok v w1 ∧
      Aside0 (SpW w2 g lv bi bs bw base (n + 1) (fun y => if y = x then G x ++ [(k : Int)] else G y) S W ∧ (∀ w : World, Below w.heap.size w wr → w.heap.size ≤ bi → w.heap.size ≤ base → Below w.heap.size w w2) ∧ wr.heap.size ≤ w2.heap.size) := by
  have hgr : wr.grownBy w1 v.ownBlock := ⟨hgrow.os.trans e1, hgrow.tape.trans e2, hgrow.output.trans e3, Nat.le_trans (by omega) hgrow.size, fun i hi hn => (hgrow.block i (by omega) hn).trans (hst i hi)⟩
  have hoi1 := hoi.appended hown1 (WalkArith.wf_i64 (by omega))
  obtain ⟨w2, hr2, hrows2, hg2⟩ := hback w1 _ _ hgr hoi1 (by simp; omega) (by
    rcases hat with h | h
    · exact .inl (by rw [h]; rfl)
    · exact .inr ⟨gg, rfl, by omega⟩)
  have hrb : ∀ j, v.ownBlock = some j → base ≤ j := fun j hj => own_base hoi.1 j hj
  have hw1 : ∀ i, i < wr.heap.size → i < base → w1.heap[i]? = wr.heap[i]? := fun i hi hlt => hgr.block i hi fun e => by have := hrb i e.symm; omega
  have hw2 : ∀ i, i < wr.heap.size → i < base → i ≠ bi → w2.heap[i]? = wr.heap[i]? := fun i hi hlt hne => (hg2.block i (by have := hgr.size; omega) fun e => hne (by injection e)).trans (hw1 i hi hlt)
  have hgn : g ≠ bi := by obtain ⟨es, cl, hb⟩ := hsw.rows.block; exact hsw.blk.ne_map hb
  refine ⟨w2, hr2, (hsw.blk.at_ (hw1 g hsw.blk.lt hb3)).c1, hlk w1 (hw1 bi hsw.rows.lt hb4), ⟨⟨hsw.blk.at_ (hw2 g hsw.blk.lt hb3 hgn), hrows2, hsw.is_.at_ (hw2 bs hsw.is_.lt hb1 (Ne.symm hsw.nis)), hsw.wt.at_ (hw2 bw hsw.wt.lt hb2 (Ne.symm hsw.niw)), hsw.ne, hsw.nis, hsw.niw⟩,
    fun w hb hle hle' => (hb.grown hgr hb.size (fun j hj => Nat.le_trans hle' (hrb j hj))).grown hg2 (Nat.le_trans hb.size hgr.size) (fun j hj => by cases hj; exact hle), Nat.le_trans hgr.size hg2.size⟩⟩

set_option maxRecDepth 100000 in
set_option maxHeartbeats 8000000 in
theorem spread_right (A : Option Addr) (cap : Nat) (l : List (List Int)) (B : Option Addr) (bcap : Nat) (fr : List Int) (w : World) (hC : Kd.C (Kd.slice 3 (Kd.int .i64)) w A l.length l) (hcap : l.length ≤ cap) (hF : Kd.C (Kd.int .i64) w B fr.length fr) (hbcap : fr.length ≤ bcap)
    (h1 : lRight l = true) (h2 : cRight fr = true) (hsz : fr.length + total l < 4398046511104) (hll : l.length < 4398046511104) : Calls Tryd.prog 12 #[.slice A l.length cap, .slice B fr.length bcap] w (SpreadPost l fr w) := by
  have HC := Aside0.mk hC
  have HF := Aside0.mk hF
  have hcon := fun W (hb : Below w.heap.size w W) => right_calls A cap l W (Kd.C_below HC.out hb) hcap
  rw [h1] at hcon
  have HCON := Lib.hid hcon
  have hcon2 := fun W b (hb : Below w.heap.size w W) (hc : W.cell? ⟨b, 0, none⟩ = some (.slice B fr.length bcap)) => (right_calls (some ⟨b, 0, none⟩) 1 [fr] W (one_row HF.out hbcap hb hc) (by simp))
  simp only [List.length_cons, List.length_nil, Nat.zero_add] at hcon2
  rw [show lRight [fr] = true by simp [lRight, h2]] at hcon2
  have HCON2 := Lib.hid hcon2
  have H1 := Aside0.mk h1
  have H2 := Aside0.mk h2
  have hmm := @run_makeMap Tryd.prog
  obtain ⟨i0, hi, hz0, hz1, hz2⟩ := info_parts info3
  clear hC hF hcon hcon2 h1 h2
  go_enter Tryd.func12, Tryd.ntmps12
  go_wp2_with fail
  refine (HCON.out _ (by repeat (first | exact Below.refl _ _ | apply below_alloc))).mono ?_
  rintro e w' ⟨rfl, nd, rfl⟩
  go_wp2_with fail
  refine (HCON2.out _ _ ?hb ?hc).mono ?_
  case hb => repeat (first | exact Below.refl _ _ | apply below_alloc | apply pw_below_drewN)
  case hc => go_simp
  rintro e w' ⟨rfl, nd2, rfl⟩
  go_wp2
  show Code.wp _ _ _ _ (spWorld w (.slice A l.length cap) nd (.cells #[.slice B fr.length bcap] 23) nd2)
  obtain ⟨HST, HB, HSZ⟩ := spStart w (.slice A l.length cap) nd (.cells #[.slice B fr.length bcap] 23) nd2
  generalize spWorld w (.slice A l.length cap) nd (.cells #[.slice B fr.length bcap] 23) nd2 = W1 at HST HB HSZ ⊢
  have HST := Aside0.mk HST
  have HB := Aside0.mk HB
  have HB0 := HB
  have hcl : ∀ c ∈ l, c.length ≤ total l := fun c hc => by
    have := length_flat l
    obtain ⟨m, hm, rfl⟩ := mem_row hc
    have := total_take l m hm
    omega
  have HCL := Aside0.mk hcl
  clear hcl
  go_loopw [34] (fun v34 wr => ∃ (k n : Nat), v34 = .int .i64 k ∧ Aside0 (k ≤ l.length) ∧ Aside0 (n ≤ total (l.take k)) ∧ Aside0 (SpW wr (w.heap.size + 1 + 1 + 1) (.slice A l.length cap) w.heap.size (w.heap.size + 1) (w.heap.size + 1 + 1) (w.heap.size + 4) n (inAt l k 0) [] []) ∧ Aside0 (Below w.heap.size w wr) ∧ Aside0 (w.heap.size + 5 ≤ wr.heap.size))
    (fun i _ => l.length - (intOf i).toNat)
  case atStart => exact ⟨0, 0, rfl, ⟨Nat.zero_le _⟩, ⟨Nat.zero_le _⟩, ⟨{ HST.out with rows := HST.out.rows.ext (fun x => (inAt_zero l x).symm) }⟩, HB, ⟨HSZ⟩⟩
  case round =>
    clear HST HB HSZ
    obtain ⟨k, n, rfl, hk, hn, hsw, hb, hz⟩ := hrel
    have hk := hk.out
    by_cases hlt : k < l.length
    · obtain ⟨ad, A0, c0, e, hcell, hlc, hrow⟩ := rows_at (Kd.C_below HC.out hb.out) hlt
      cases e
      have HLC := Aside0.mk hlc
      have HROW := Aside0.mk (kdC_len hrow)
      have HROWC : Aside0 ((Kd.int .i64).C w A0 (row l k).length (row l k)) := by
        obtain ⟨ad2, A2, c2, e2, hcell2, _, hrow2⟩ := rows_at HC.out hlt
        cases e2
        have := (hb.out.cell (World.block_lt_of_cell? w _ hcell2)).trans hcell2
        rw [hcell] at this
        cases this
        exact ⟨hrow2⟩
      have hrlen := HCL.out _ (row_mem hlt)
      clear hlc
      go_wp2
      go_loopw [41] (fun v41 wr => ∃ (j n : Nat), v41 = .int .i64 j ∧ Aside0 (j ≤ (row l k).length) ∧ Aside0 (n ≤ total (l.take k) + j) ∧ Aside0 (SpW wr (w.heap.size + 1 + 1 + 1) (.slice (some ad) l.length cap) w.heap.size (w.heap.size + 1) (w.heap.size + 1 + 1) (w.heap.size + 4) n (inAt l k j) [] []) ∧ Aside0 (Below w.heap.size w wr) ∧ Aside0 (w.heap.size + 5 ≤ wr.heap.size))
        (fun i _ => (row l k).length - (intOf i).toNat)
      case atStart => exact ⟨0, n, rfl, ⟨Nat.zero_le _⟩, hn, hsw, hb, hz⟩
      case round =>
        clear hn hsw hb hz hcell hrow
        obtain ⟨j, n, rfl, hj, hn, hsw, hb, hz⟩ := hrel
        have hj := hj.out
        by_cases hltj : j < (row l k).length
        · obtain ⟨ad0, e, hcell⟩ := Kd.at_int (Kd.C_below HROWC.out hb.out) (j : Int) (by omega) (by omega)
          cases e
          rw [Int.toNat_natCast] at hcell
          have hlit := lits_of (cRight_of H1.out (row_mem hlt)) _ (rd_mem hltj)
          have hc1 := hsw.out.blk.c1
          have hnn : n < 4398046511104 := by have := hn.out; have := total_take l k hlt; omega
          obtain ⟨v, hrun, hoi, hvl, hback⟩ := hsw.out.rows.look gm (by unfold maxLen; omega) (x := rd (row l k) j) (wf_lit (by omega) (by omega))
          have HBACK := Aside0.mk hback
          have HOI := Aside0.mk hoi
          clear hback hoi
          have hlk : ∀ W : World, W.heap[w.heap.size]? = wr.heap[w.heap.size]? → (Instr.lookup 55 (.map (some w.heap.size)) (.int .i64 (rd (row l k) j)) false).run Tryd.prog W = .ok v W := fun W hW => hsw.out.rows.look_same gm (wf_lit (by omega) (by omega)) hrun hW
          have HLK := Aside0.mk hlk
          have hblt : w.heap.size < wr.heap.size := hsw.out.rows.lt
          have hglt := hsw.out.blk.lt
          clear hlk
          go_wp2_with fail
          refine start_ (n := 15) (S := fun w' => w'.cell? ⟨w.heap.size + 1 + 1 + 1, 1, none⟩ = some (.map (some w.heap.size)) ∧ (Instr.lookup 55 (.map (some w.heap.size)) (.int .i64 (rd (row l k) j)) false).run Tryd.prog w' = .ok v w') (ds := [14]) #[false, false, false, false, false, false, false, false, false, false, false, false, false, false, false] (by kernel_rfl) rfl rfl ⟨hc1, (HLK.out _ rfl)⟩ (fun hHeld => ?_)
          refine pure_ (i := 0) (N := some 45) (v := ?_) (a' := ?_) #[true, false, false, false, false, false, false, false, false, false, false, false, false, false, false] rfl rfl (by kernel_rfl) (fun _ _ _ h => h) (Or.inl ⟨by rfl, ?_⟩) ?_ ?_
          rotate_left
          · intro w'
            go_simp
            with_reducible rfl
          rotate_left
          · simp only [Act.put, List.setIfInBounds_toArray, List.set_cons_zero, List.set_cons_succ, i64_w, i32_w]
            rfl
          refine pure_ (i := 1) (N := some 46) (v := ?_) (a' := ?_) #[true, true, false, false, false, false, false, false, false, false, false, false, false, false, false] rfl rfl (by kernel_rfl) (fun _ _ _ h => h) (Or.inl ⟨by rfl, ?_⟩) ?_ ?_
          rotate_left
          · intro w'
            go_simp
            with_reducible rfl
          rotate_left
          · simp only [Act.put, List.setIfInBounds_toArray, List.set_cons_zero, List.set_cons_succ, i64_w, i32_w]
            rfl
          refine pure_ (i := 2) (N := some 47) (v := ?_) (a' := ?_) #[true, true, true, false, false, false, false, false, false, false, false, false, false, false, false] rfl rfl (by kernel_rfl) (fun _ _ _ h => h) (Or.inl ⟨by rfl, ?_⟩) ?_ ?_
          rotate_left
          · intro w'
            go_simp
            with_reducible rfl
          rotate_left
          · simp only [Act.put, List.setIfInBounds_toArray, List.set_cons_zero, List.set_cons_succ, i64_w, i32_w]
            rfl
          refine pure_ (i := 4) (N := some 49) (v := ?_) (a' := ?_) #[true, true, true, false, true, false, false, false, false, false, false, false, false, false, false] rfl rfl (by kernel_rfl) (fun _ _ _ h => h) (Or.inl ⟨by rfl, ?_⟩) ?_ ?_
          rotate_left
          · intro w'
            go_simp
            with_reducible rfl
          rotate_left
          · simp only [Act.put, List.setIfInBounds_toArray, List.set_cons_zero, List.set_cons_succ, i64_w, i32_w]
            rfl
          refine pure_ (i := 5) (N := some 50) (v := ?_) (a' := ?_) #[true, true, true, false, true, true, false, false, false, false, false, false, false, false, false] rfl rfl (by kernel_rfl) (fun _ _ _ h => h) (Or.inl ⟨by rfl, ?_⟩) ?_ ?_
          rotate_left
          · intro w'
            go_simp
            with_reducible rfl
          rotate_left
          · simp only [Act.put, List.setIfInBounds_toArray, List.set_cons_zero, List.set_cons_succ, i64_w, i32_w]
            rfl
          refine pure_ (i := 6) (N := some 51) (v := ?_) (a' := ?_) #[true, true, true, false, true, true, true, false, false, false, false, false, false, false, false] rfl rfl (by kernel_rfl) (fun _ _ _ h => h) (Or.inl ⟨by rfl, ?_⟩) ?_ ?_
          rotate_left
          · intro w'
            go_simp
            with_reducible rfl
          rotate_left
          · simp only [Act.put, List.setIfInBounds_toArray, List.set_cons_zero, List.set_cons_succ, i64_w, i32_w]
            rfl
          refine pure_ (i := 7) (N := some 52) (v := ?_) (a' := ?_) #[true, true, true, false, true, true, true, true, false, false, false, false, false, false, false] rfl rfl (by kernel_rfl) (fun _ _ _ h => h) (Or.inl ⟨by rfl, ?_⟩) ?_ ?_
          rotate_left
          · intro w'
            go_simp
            with_reducible rfl
          rotate_left
          · simp only [Act.put, List.setIfInBounds_toArray, List.set_cons_zero, List.set_cons_succ, i64_w, i32_w]
            rfl
          refine pure_ (i := 9) (N := some 54) (v := ?_) (a' := ?_) #[true, true, true, false, true, true, true, true, false, true, false, false, false, false, false] rfl rfl (by kernel_rfl) (fun _ _ _ h => h) (Or.inl ⟨by rfl, ?_⟩) ?_ ?_
          rotate_left
          · intro w'
            go_simp
            with_reducible rfl
          rotate_left
          · simp only [Act.put, List.setIfInBounds_toArray, List.set_cons_zero, List.set_cons_succ, i64_w, i32_w]
            rfl
          refine pure_ (i := 11) (N := some 56) (v := ?_) (a' := ?_) #[true, true, true, false, true, true, true, true, false, true, false, true, false, false, false] rfl rfl (by kernel_rfl) (fun _ _ _ h => h) (Or.inl ⟨by rfl, ?_⟩) ?_ ?_
          rotate_left
          · intro w'
            go_simp
            with_reducible rfl
          rotate_left
          · simp only [Act.put, List.setIfInBounds_toArray, List.set_cons_zero, List.set_cons_succ, i64_w, i32_w]
            rfl
          refine take_ (i := 3) (N := some 48) (v := ?_) (a' := ?_) #[true, true, true, true, true, true, true, true, false, true, false, true, false, false, false] rfl rfl (by kernel_rfl) (fun _ _ _ h => h) (Or.inl ⟨by rfl, ?_⟩) hHeld ?_ ?_
          rotate_left
          · rintro w' ⟨s0, s1⟩
            go_simp
            with_reducible rfl
          rotate_left
          · simp only [Act.put, List.setIfInBounds_toArray, List.set_cons_zero, List.set_cons_succ, i64_w, i32_w]
            rfl
          refine take_ (i := 8) (N := some 53) (v := ?_) (a' := ?_) #[true, true, true, true, true, true, true, true, true, true, false, true, false, false, false] rfl rfl (by kernel_rfl) (fun _ _ _ h => h) (Or.inl ⟨by rfl, ?_⟩) hHeld ?_ ?_
          rotate_left
          · rintro w' ⟨s0, s1⟩
            go_simp
            with_reducible rfl
          rotate_left
          · simp only [Act.put, List.setIfInBounds_toArray, List.set_cons_zero, List.set_cons_succ, i64_w, i32_w]
            rfl
          refine take_ (i := 10) (N := some 55) (v := ?_) (a' := ?_) #[true, true, true, true, true, true, true, true, true, true, true, true, false, false, false] rfl rfl (by kernel_rfl) (fun _ _ _ h => h) (Or.inl ⟨by rfl, ?_⟩) hHeld ?_ ?_
          rotate_left
          · rintro w' ⟨s0, s1⟩
            go_simp
            with_reducible rfl
          rotate_left
          · simp only [Act.put, List.setIfInBounds_toArray, List.set_cons_zero, List.set_cons_succ, i64_w, i32_w]
            rfl
          refine one_ (i := 12) (N := some 57) #[true, true, true, true, true, true, true, true, true, true, true, true, true, false, false] rfl rfl (by kernel_rfl) (by decide) (fun K hK => ?_)
          refine value_ (w1 := ?_) (v := ?_) (by rfl) rfl ?_ ?_
          rotate_left 2
          · go_simp
            constructor
            · rfl
            · rfl
          refine hK.out _ _ ⟨(by go_keep), (HLK.out _ (Below.heap_alloc wr _ _ hblt))⟩ (fun hHeld => ?_)
          clear hK K
          refine norm_ (a' := ?_) ?_ ?_
          rotate_left
          · show Act.put _ (some 57) _ = _
            simp only [Act.put, List.setIfInBounds_toArray, List.set_cons_zero, List.set_cons_succ, i64_w, i32_w]
            rfl
          refine one_ (i := 13) (N := some 58) #[true, true, true, true, true, true, true, true, true, true, true, true, true, true, false] rfl rfl (by kernel_rfl) (by decide) (fun K hK => ?_)
          refine step_append_lies _ (by rfl) _ _ _ (by rfl) (w.heap.size + 4) 3 i0 _ 1 8 Tryd.underlying23 hi hz0 hz1 hz2 rfl (by omega) v (inAt l k j (rd (row l k) j)).length ((inAt l k j (rd (row l k) j)).map (Value.int .i64)) (by rfl) (by exact own_move HOI.out.1 (fun q hq => Below.heap_alloc wr _ q (own_lt HOI.out.1 q hq))) ⟨wr.heap.size, 0, none⟩ 1 1 [.int .i64 k] (by rfl) (by rfl) (World.news_of_block (cs := #[.int .i64 k]) (t := 3) (fr := (0, 0)) (by exact heap_alloc_new wr _)) (by simp [Value.oneCell']) (by omega) (by unfold maxLen; omega) (by omega) (by simp; omega) (wr.heap.size + 1) (by simp) ?_
          intro gg cap1 w1 hown1 hgrow hat hltg
          obtain ⟨w2, hr2, hc1w, hlk1, HQ⟩ := in_step HOI.out hsw.out hgrow (by exact (size_alloc wr _).symm) (fun i hi => by exact Below.heap_alloc wr _ i hi) rfl rfl rfl hown1 hat HLK.out HBACK.out hvl
          clear hown1 hgrow hat hltg
          refine hK.out _ _ ⟨hc1w, hlk1⟩ (fun hHeld => ?_)
          clear hK K
          refine norm_ (a' := ?_) ?_ ?_
          rotate_left
          · show Act.put _ (some 58) _ = _
            simp only [Act.put, List.setIfInBounds_toArray, List.set_cons_zero, List.set_cons_succ, i64_w, i32_w]
            rfl
          refine last_ (i := 14) (N := none) #[true, true, true, true, true, true, true, true, true, true, true, true, true, true, true] rfl rfl (by kernel_rfl) (by decide) (fun K hK => ?_)
          refine skip_ (w1 := ?_) (by rfl) rfl ?_ ?_
          rotate_left
          · go_simp
            rfl
          refine hK.out _ _ ?_
          clear hK K
          refine done_ (by kernel_rfl) ?_
          go_wp2
          go_roundw
          case rel => exact ⟨j + 1, n + 1, by go_num, ⟨hltj⟩, ⟨by have := hn.out; omega⟩, ⟨{ HQ.out.1 with rows := HQ.out.1.rows.ext (fun x => (inAt_next1 hltj x).symm) }⟩, ⟨HQ.out.2.1 w hb.out (Nat.le_refl _) (by omega)⟩, ⟨Nat.le_trans hz.out HQ.out.2.2⟩⟩
          case measure => simp [intOf]; omega
        · have ej : j = (row l k).length := by omega
          subst ej
          go_wp2
          go_roundw
          case rel => exact ⟨k + 1, n, by go_num, ⟨hlt⟩, ⟨by have := hn.out; have := total_snoc hlt; omega⟩, ⟨{ hsw.out with rows := hsw.out.rows.ext (fun x => inAt_next hlt x) }⟩, hb, hz⟩
          case measure => simp [intOf]; omega
    · have ek : k = l.length := by omega
      subst ek
      have hn := hn.out
      rw [List.take_length] at hn
      have hsw0 := Aside0.mk ({ hsw.out with rows := hsw.out.rows.ext (fun x => inAt_end l x) } : SpW _ _ _ _ _ _ _ _ (inOf l) _ _)
      clear hsw
      have hgo := HB0.out
      go_wp2
      go_loopw [63] (fun v63 wr => ∃ (i : Nat) (S W : List Int), v63 = .int .i64 i ∧ Aside0 (i ≤ fr.length) ∧ Aside0 (RInv l fr S W [] i 0) ∧ Aside0 (SpW wr (w.heap.size + 1 + 1 + 1) (.slice A l.length cap) w.heap.size (w.heap.size + 1) (w.heap.size + 1 + 1) (w.heap.size + 4) n (inOf l) S W) ∧ Aside0 (Below w.heap.size w wr))
        (fun i _ => fr.length - (intOf i).toNat)
      case atStart => exact ⟨0, [], [], rfl, ⟨Nat.zero_le _⟩, ⟨RInv.start l fr⟩, hsw0, hb⟩
      case round =>
        clear hsw0 hb hz
        obtain ⟨i, S, W, rfl, hi, hri, hsw, hb⟩ := hrel
        have hi := hi.out
        by_cases hlti : i < fr.length
        · obtain ⟨ad0, e, hcell⟩ := Kd.at_int (Kd.C_below HF.out hb.out) (i : Int) (by omega) (by omega)
          cases e
          rw [Int.toNat_natCast] at hcell
          have hlit := lits_of H2.out _ (rd_mem hlti)
          have hrd : fr.getD i 0 = rd fr i := by simp [rd]
          have HRD := Lib.hid hrd
          have hs1 := hri.out.size
          have hs2 := hri.out.sizeW
          clear hrd
          cases hno : S.contains (-(rd fr i)) with
          | true =>
            have hcon := hold_no hsw.out.blk hsw.out.is_ hlit.1 hlit.2.1 hno
            have HC3 := Lib.hid hcon
            have hend := Lib.hid (spread_none H1.out H2.out (hri.out.clash (rd_mem hlti) (by simpa using hno)))
            clear hcon hno hlit
            go_wp2_with (go_at_call 31; refine (HC3.out).mono ?_; rintro e w' ⟨rfl, rfl⟩)
            go_ret2
            exact spreadPost_fail hend.out hb.out
          | false =>
            cases hold_ : S.contains (rd fr i) with
            | true =>
              have hcon := hold_old hsw.out.blk hsw.out.is_ hlit.1 hlit.2.1 hno hold_
              have HC3 := Lib.hid hcon
              have HR := Aside0.mk (hri.out.held_old (by rw [HRD.out]; simpa using hold_))
              clear hcon hno hlit hold_
              go_wp2_with (go_at_call 31; refine (HC3.out).mono ?_; rintro e w' ⟨rfl, rfl⟩)
              go_roundw
              case rel => exact ⟨i + 1, S, W, by go_num, ⟨hlti⟩, HR, hsw, hb⟩
              case measure => simp [intOf]; omega
            | false =>
              have hnS : rd fr i ∉ S := by simpa using hold_
              have hcon := hold_new hsw.out.blk hsw.out.is_ hsw.out.wt hsw.out.ne (by omega) (by omega) hlit.1 hlit.2.1 hno hold_ (by simpa using fun h => hnS (hri.out.sub _ h))
              have HC3 := Lib.hid hcon
              have HR := Aside0.mk ((hri.out.more (Der.of_from (rd_mem hlti)) hlit.2.2 hnS (by simpa using hno) ⟨hlit.1, hlit.2.1⟩ (.inl (rd_mem hlti))).held_old (by rw [HRD.out]; simp))
              clear hcon hno hlit hold_ hnS
              go_wp2_with (go_at_call 31; refine (HC3.out).mono ?_; rintro e w' ⟨rfl, hS', hW', hf'⟩; have HQ := Aside0.mk (And.intro hS' (And.intro hW' hf')); clear hS' hW' hf')
              go_roundw
              case rel => exact ⟨i + 1, _, _, by go_num, ⟨hlti⟩, HR, ⟨hsw.out.turn HQ.out.1 HQ.out.2.1 (fun j hj h1 h2 _ => HQ.out.2.2.block j hj (fun h => by rcases h with h | h; exact h1 h; exact h2 h))⟩, ⟨HQ.out.2.2.below hb.out hb.out.size (fun j hj => by rcases hj with rfl | rfl <;> omega)⟩⟩
              case measure => simp [intOf]; omega
        · have ei : i = fr.length := by omega
          subst ei
          go_wp2
          go_loopw [74] (fun v74 wr => ∃ (k : Nat) (S W : List Int), v74 = .int .i64 k ∧ Aside0 (k ≤ l.length) ∧ Aside0 (RInv l fr S W [] fr.length k) ∧ Aside0 (SpW wr (w.heap.size + 1 + 1 + 1) (.slice A l.length cap) w.heap.size (w.heap.size + 1) (w.heap.size + 1 + 1) (w.heap.size + 4) n (inOf l) S W) ∧ Aside0 (Below w.heap.size w wr))
            (fun i _ => l.length - (intOf i).toNat)
          case atStart => exact ⟨0, S, W, rfl, ⟨Nat.zero_le _⟩, hri, hsw, hb⟩
          case round =>
            clear hri hsw hb
            obtain ⟨k, S, W, rfl, hk, hri, hsw, hb⟩ := hrel
            have hk := hk.out
            by_cases hltk : k < l.length
            · obtain ⟨ad, A0, c0, e, hcell, hlc, hrow⟩ := rows_at (Kd.C_below HC.out hb.out) hltk
              cases e
              have hrm := row_mem hltk
              have hlits := lits_of (cRight_of H1.out hrm)
              have hcl := HCL.out _ hrm
              have hs1 := hri.out.size
              have hs2 := hri.out.sizeW
              have h0s : ∀ z ∈ row l k, z ≠ 0 := fun z hz => (hlits z hz).2.2
              cases hask : askLoop S 0 (row l k) with
              | none =>
                have HC3 := Lib.hid (ask_c_none hsw.out.blk hsw.out.is_ hsw.out.wt hsw.out.ne (by omega) (by omega) hri.out.sub hlits hrow hlc (by omega) hask)
                have HR := Aside0.mk (hri.out.asked (ask_none h0s hask))
                clear hlits hcl h0s hrow hask hs1 hs2
                go_wp2_with (go_at_call 32; refine (HC3.out).mono ?_; rintro e w' ⟨rfl, rfl⟩)
                go_roundw
                case rel => exact ⟨k + 1, S, W, by go_num, ⟨hltk⟩, HR, hsw, hb⟩
                case measure => simp [intOf]; omega
              | some z =>
                by_cases hz0 : z = 0
                · subst hz0
                  have HC3 := Lib.hid (ask_c_zero hsw.out.blk hsw.out.is_ hsw.out.wt hsw.out.ne (by omega) (by omega) hri.out.sub hlits hrow hlc (by omega) hask)
                  have hend := Lib.hid (spread_none H1.out H2.out (hri.out.fails hrm (ask_zero h0s hask)))
                  clear hlits hcl h0s hrow hask hs1 hs2
                  go_wp2_with (go_at_call 32; refine (HC3.out).mono ?_; rintro e w' ⟨rfl, rfl⟩)
                  go_ret2
                  exact spreadPost_fail hend.out hb.out
                · obtain ⟨z1, z2, z3, z4⟩ := ask_one h0s hask hz0
                  have hzb := hlits z z1
                  have HC3 := Lib.hid (ask_c_one hsw.out.blk hsw.out.is_ hsw.out.wt hsw.out.ne (by omega) (by omega) hri.out.sub hlits hrow hlc (by omega) hask hz0)
                  have HR := Aside0.mk ((hri.out.more (hri.out.unit hrm z1 z4) hz0 z2 z3 ⟨hzb.1, hzb.2.1⟩ (.inr ⟨_, hrm, z1⟩)).asked (.inl ⟨z, z1, by simp⟩))
                  clear hlits hcl h0s hrow hask hs1 hs2 z1 z2 z3 z4 hz0 hzb
                  go_wp2_with (go_at_call 32; refine (HC3.out).mono ?_; rintro e w' ⟨rfl, hS', hW', hf'⟩; have HQ := Aside0.mk (And.intro hS' (And.intro hW' hf')); clear hS' hW' hf')
                  go_roundw
                  case rel => exact ⟨k + 1, _, _, by go_num, ⟨hltk⟩, HR, ⟨hsw.out.turn HQ.out.1 HQ.out.2.1 (fun j hj h1 h2 _ => HQ.out.2.2.block j hj (fun h => by rcases h with h | h; exact h1 h; exact h2 h))⟩, ⟨HQ.out.2.2.below hb.out hb.out.size (fun j hj => by rcases hj with rfl | rfl <;> omega)⟩⟩
                  case measure => simp [intOf]; omega
            · have ek : k = l.length := by omega
              subst ek
              have hn1 : n < 4611686018427387904 := by omega
              have hrun := run_calls hsw.out hn1 hri.out HC.out hcap hb.out (by omega) (by omega) H1.out (by omega) (by omega) (fun c hc => by have := HCL.out c hc; omega)
              by_cases hfail : Fails l fr
              · have HC3 := Lib.hid (hrun.mono fun e w' hp => And.intro ((hp.2.resolve_right fun h => h.1 hfail).2) (hp.1.below hb.out hb.out.size (fun j hj => by rcases hj with rfl | rfl <;> omega)))
                have hend := Lib.hid (spread_none H1.out H2.out hfail)
                clear hrun hfail
                go_wp2_with (go_at_call 33; refine (HC3.out).mono ?_; rintro e w' ⟨rfl, hb'⟩; have HBB := Aside0.mk hb'; clear hb')
                go_ret2
                exact spreadPost_fail hend.out HBB.out
              · have HC3 := Lib.hid (hrun.mono fun e w' hp => And.intro ((hp.2.resolve_left fun h => hfail h.1).2.1) (And.intro ((hp.2.resolve_left fun h => hfail h.1).2.2) (And.intro hp.1 (hp.1.below hb.out hb.out.size (fun j hj => by rcases hj with rfl | rfl <;> omega)))))
                have HF0 := Lib.hid hfail
                clear hrun hfail
                go_wp2_with (first
                  | (go_at_call 33; refine (HC3.out).mono ?_; rintro e w5 ⟨rfl, hS5, hf5, hb5⟩; have HS5 := Aside0.mk hS5; have HF5 := Aside0.mk hf5; have HB5 := Aside0.mk hb5; clear hS5 hf5 hb5; obtain ⟨S5, hs5⟩ := HS5.out; have HS5' := Aside0.mk hs5; have hg5 := hsw.out.g_ne; have hc2 : w5.cell? ⟨w.heap.size + 1 + 1 + 1, 2, none⟩ = some (.map (some (w.heap.size + 1))) := (hsw.out.blk.at_ (HF5.out.block _ hsw.out.blk.lt (fun h => by rcases h with h | h; exact hg5.1 h; exact hg5.2 h))).c2; clear hs5 hg5)
                  | (at_range; refine set_range im rfl _ rfl rfl HS5'.out.1 HS5'.out.2.1 (fun x hx => wf_lit (HS5'.out.2.2.2.1 x hx).1 (HS5'.out.2.2.2.1 x hx).2.1) ?_; intro w6 cnt hgo hgr hs6; have HGO := Aside0.mk hgo; have HB6 := Aside0.mk (HB5.out.grown hgr HB5.out.size (by simp)); clear hgo hgr)
                  | go_in)
                go_frame
                have hSz : S5.length < 4398046511104 := by
                  have h := length_le_of_sub S5 (fr ++ flat l) HS5'.out.2.2.1 fun x hx => der_src H1.out H2.out ((HS5'.out.2.2.2.2 x).1 hx)
                  rw [List.length_append, length_flat] at h
                  omega
                clear hc2
                go_loopw [15] (fun v15 wr => ∃ (xs left : List Int) (cnt : Nat), Aside0 (wr.ownsRow w.heap.size 3 1 v15 xs.length (xs.map (Value.int .i64))) ∧ Aside0 (Going Tryd.prog 3 wr (w.heap.size + 1) w5.heap.size S5 left cnt) ∧ Aside0 ((xs ++ left).Perm S5) ∧ Aside0 (Below w.heap.size w wr))
                  (fun _ w' => w'.rangeLeft (w.heap.size + 1) w5.heap.size)
                case atStart => exact ⟨[], S5, cnt, ⟨own_nil _ _ _ _⟩, HGO, ⟨List.Perm.refl _⟩, HB6⟩
                case round =>
                  obtain ⟨xs, left, cnt, hown, hgo, hperm, hb⟩ := hrel
                  have hlen : xs.length + left.length = S5.length := by have := hperm.out.length_eq; simpa using this
                  go_wp2_with (first
                    | (at_next; refine set_next im rfl _ rfl rfl hgo.out ?_ ?_)
                    | go_in)
                  · intro hleft
                    subst hleft
                    have hp : xs.Perm S5 := by have := hperm.out; rwa [List.append_nil] at this
                    have hax : Apart xs := (List.Perm.pairwise_iff (fun h => Ne.symm h) hp).2 HS5'.out.2.2.1
                    have hcon := sorted_calls hown.out hax (fun x hx => HS5'.out.2.2.2.1 x (hp.mem_iff.1 hx)) (by omega)
                    have hres := spread_some H1.out H2.out HF0.out (up_isort xs hax) (fun x => by rw [mem_isort, hp.mem_iff]; exact HS5'.out.2.2.2.2 x)
                    have HCO := Lib.hid (hcon.mono fun e w' hq => And.intro hq.1 (And.intro (show Kd.R (Kd.int .i64) 3 w' w.heap.size (fun _ => True) _ (isort xs) from Kd.R_of_own (h1 := fun _ => rfl) (by rw [length_isort]; exact hq.2.1) (fun _ _ => trivial)) (hb.out.grown hq.2.2 hb.out.size (fun j hj => own_base hown.out j hj))))
                    have HRES := Lib.hid hres
                    clear hcon hres hax hp
                    go_wp2_with (go_at_call 34; refine (HCO.out).mono ?_; rintro e w' ⟨rfl, hR, hB⟩; have HRR := Aside0.mk hR; have HBB := Aside0.mk hB; clear hR hB)
                    go_ret2
                    exact ⟨u15, (by rw [HRES.out]; rfl), (by rw [HRES.out]; exact HRR.out), HBB.out⟩
                  · intro x c w7 cnt7 hxl hxw hgo7 hlt7 hg7 hs7 hen
                    have hrnew : w.heap.size ≤ w5.heap.size := HB5.out.size
                    have HG7 := Aside0.mk hgo7
                    have HXL := Aside0.mk hxl
                    have HXW := Aside0.mk hxw
                    have HB7 := Aside0.mk (hb.out.grown hg7 hb.out.size (fun j hj => by cases hj; exact hrnew))
                    obtain ⟨since, seen, cc, hit⟩ := hgo.out.iter
                    have HO7 := Aside0.mk (own_move hown.out (w1 := w7) fun j hj => by
                      obtain ⟨cells, hcj⟩ := own_typed hown.out j hj
                      refine hg7.block j (lt_of_block hcj) fun e => ?_
                      cases e
                      rw [hit] at hcj
                      cases hcj)
                    have hperm7 : ((xs ++ [x]) ++ left.erase x).Perm S5 := by
                      refine List.Perm.trans ?_ hperm.out
                      rw [List.append_assoc]
                      exact List.Perm.append_left _ (List.perm_cons_erase hxl).symm
                    have HP7 := Aside0.mk hperm7
                    have hpos : 0 < left.length := List.length_pos_of_mem hxl
                    have hcnt : cnt7 < cnt := hlt7
                    have hleq := Lib.hid hgo.out.left_eq
                    clear hgo7 hxl hxw hg7 hit hperm7 hs7
                    go_wp2_with (first
                      | (at_builtin; refine print_append_num (w0 := w) w.heap.size rfl _ _ 23 3 .i64 8 rfl Tryd.underlying23 info3 (by omega) u15 xs x rfl rfl HO7.out HB7.out HB7.out.size (by omega) ?_; intro v8 w8 hown8 hb8 hg8 hat8; have HO8 := Aside0.mk hown8; have HB8 := Aside0.mk hb8; have HG8 := Aside0.mk hg8; clear hown8 hb8 hg8 hat8)
                      | go_in)
                    have HGO8 : Aside0 (Going Tryd.prog 3 w8 (w.heap.size + 1) w5.heap.size S5 (left.erase x) cnt7) := by
                      refine ⟨HG7.out.kept HG8.out (fun e => ?_) (fun e => ?_)⟩
                      · obtain ⟨cells, hcj⟩ := own_typed HO7.out _ e.symm
                        exact isMap_ne HG7.out.set _ _ _ hcj
                      · obtain ⟨cells, hcj⟩ := own_typed HO7.out _ e.symm
                        obtain ⟨_, _, _, hit7⟩ := HG7.out.iter
                        rw [hit7] at hcj
                        cases hcj
                    go_roundw
                    case rel => exact ⟨xs ++ [x], left.erase x, cnt7, by simpa [nums] using HO8, HGO8, HP7, HB8⟩
                    case measure => rw [HGO8.out.left_eq, hleq.out]; exact hcnt

/-- Spread, of whatever lists that aren't beyond all measure. -/
theorem spread_calls (A : Option Addr) (cap : Nat) (l : List (List Int)) (B : Option Addr) (bcap : Nat) (fr : List Int) (w : World) (hC : Kd.C (Kd.slice 3 (Kd.int .i64)) w A l.length l) (hcap : l.length ≤ cap) (hF : Kd.C (Kd.int .i64) w B fr.length fr) (hbcap : fr.length ≤ bcap)
    (hsz : fr.length + total l < 4398046511104) (hll : l.length < 4398046511104) : Calls Tryd.prog 12 #[.slice A l.length cap, .slice B fr.length bcap] w (SpreadPost l fr w) := by
  cases h1 : lRight l with
  | false => exact spread_wrong1 A cap l B bcap fr w hC hcap hF hbcap h1
  | true =>
    cases h2 : cRight fr with
    | false => exact spread_wrong2 A cap l B bcap fr w hC hcap hF hbcap h1 h2
    | true => exact spread_right A cap l B bcap fr w hC hcap hF hbcap h1 h2 hsz hll
end Go.Proofs.YtnknoaolbjofiaaDoor.Cl
