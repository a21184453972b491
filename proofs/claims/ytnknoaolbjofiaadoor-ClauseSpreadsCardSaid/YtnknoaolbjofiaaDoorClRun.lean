/- spreader.run: the walk: till nothing is waiting. -/
import Derived.Test.YtnknoaolbjofiaaDoorClAsk
import Derived.Test.YtnknoaolbjofiaaDoorClRunP
import Derived.Deep.LoopGhost
import Derived.LoopN
set_option linter.unusedVariables false
set_option linter.unusedSimpArgs false
namespace Go.Proofs.YtnknoaolbjofiaaDoor.Cl
open Go.RowKit Go.Maps Go.Proofs.YtnknoaolbjofiaaDoorW.PrintWords

/-! ### What stays -/
theorem Fr.then_ {a b c : World} {S S' : Nat → Prop} (h : Fr a b S) (k : Fr b c S') (hS : ∀ i, S' i → S i ∨ a.heap.size ≤ i) : Fr a c S :=
  ⟨k.os.trans h.os, k.tape.trans h.tape, k.output.trans h.output, Nat.le_trans h.size k.size, fun i hi hn => (k.block i (Nat.lt_of_lt_of_le hi h.size) (fun hs => by rcases hS i hs with h1 | h1; exact hn h1; omega)).trans (h.block i hi hn)⟩
theorem ownsInts_move {w w1 : World} {base : Nat} {e : TypeId} {q : IntKind} {v : Value} {zs : List Int} (h : w.ownsInts base e q v zs) (hm : ∀ k, v.ownBlock = some k → w1.heap[k]? = w.heap[k]?) : w1.ownsInts base e q v zs := ⟨own_move h.1 hm, h.2⟩
/-- The map of rows stays where its own block and the rows' stay. -/
theorem HasRows.move {P : Program} {kt : TypeId} {w w1 : World} {base b n : Nat} {G : Int → List Int} (h : HasRows P kt w base b n G) (hb : w1.heap[b]? = w.heap[b]?) (hr : ∀ i c t f, base ≤ i → w.heap[i]? = some (.cells c t f) → w1.heap[i]? = w.heap[i]?) : HasRows P kt w1 base b n G := by
  obtain ⟨D, ⟨es, clock, hb', F, hs, rfl, hbb, hlen, hap⟩, r⟩ := h
  have hmv : ∀ v zs, w.ownsInts base kt .i64 v zs → w1.ownsInts base kt .i64 v zs := fun v zs ho => ownsInts_move ho fun k hk => by
    obtain ⟨cells, hc⟩ := own_typed ho.1 k hk
    exact hr k _ _ _ (own_base ho.1 k hk) hc
  have hst : ∀ x ∈ es.toList, ∀ z, rowElem (H := Unit) w base kt .i64 x.val = some z → rowElem w1 base kt .i64 x.val = some z := fun x hx z hz => by
    obtain ⟨zs, ho, rfl⟩ := rowElem_inv hz
    exact rowElem_mk (hmv _ _ ho)
  obtain ⟨F1, hmap, _⟩ := F.stay hst
  refine ⟨_, ⟨es, clock, hb.trans hb', F1, hs, by rw [hmap], hbb, fun x hx zs ho => ?_, hap⟩, r⟩
  obtain ⟨y, hy⟩ := F.reads x hx
  obtain ⟨z, hz, _⟩ := Go.WideElems.rd_val hy
  obtain ⟨zs0, ho0, _⟩ := rowElem_inv hz
  rw [ho.unique (hmv _ _ ho0)]
  exact hlen x hx zs0 ho0

theorem Going.iter {P : Program} {kt : TypeId} {w : World} {b r cnt : Nat} {S left : List Int} (h : Going P kt w b r S left cnt) : ∃ since seen c0, w.heap[r]? = some (.mapIter (some b) since seen c0) := by
  obtain ⟨D, n', f, ⟨es, clk, since, seen, c0, h1, h2, h3, h4, h5, _⟩, _⟩ := h
  exact ⟨since, seen, c0, h5⟩
theorem isMap_ne {w : World} {P : Program} {kt : TypeId} {b : Nat} {S : List Int} (h : IsSet P kt w b S) : ∀ c t f, w.heap[b]? ≠ some (.cells c t f) := fun c t f e => by
  obtain ⟨es, cl, hb⟩ := h.block
  rw [hb] at e
  cases e

/-- All that a spreader's world is. -/
structure SpW (w : World) (g : Nat) (lv : Value) (bi bs bw base n : Nat) (G : Int → List Int) (S W : List Int) : Prop where
  blk : SpBlk w g lv bi bs bw
  rows : HasRows Tryd.prog 3 w base bi n G
  is_ : IsSet Tryd.prog 3 w bs S
  wt : IsSet Tryd.prog 3 w bw W
  ne : bs ≠ bw
  nis : bi ≠ bs
  niw : bi ≠ bw
theorem SpW.g_ne {w : World} {g : Nat} {lv : Value} {bi bs bw base n : Nat} {G : Int → List Int} {S W : List Int} (h : SpW w g lv bi bs bw base n G S W) : g ≠ bs ∧ g ≠ bw := by
  obtain ⟨es, cl, hb⟩ := h.is_.block
  obtain ⟨es', cl', hb'⟩ := h.wt.block
  exact ⟨h.blk.ne_map hb, h.blk.ne_map hb'⟩
/-- Other sets in the two blocks. -/
theorem SpW.turn {w w1 : World} {g : Nat} {lv : Value} {bi bs bw base n : Nat} {G : Int → List Int} {S W S1 W1 : List Int} (h : SpW w g lv bi bs bw base n G S W) (hS : IsSet Tryd.prog 3 w1 bs S1) (hW : IsSet Tryd.prog 3 w1 bw W1)
    (hf : ∀ i, i < w.heap.size → i ≠ bs → i ≠ bw → (∀ b s e c, w.heap[i]? ≠ some (.mapIter b s e c)) → w1.heap[i]? = w.heap[i]?) : SpW w1 g lv bi bs bw base n G S1 W1 := by
  have hg := h.g_ne
  refine ⟨h.blk.at_ (hf g h.blk.lt hg.1 hg.2 fun _ _ _ _ e => ?_), h.rows.move (hf bi h.rows.lt h.nis h.niw fun _ _ _ _ e => ?_) (fun i c t f _ he => hf i (lt_of_block he) (fun e => ?_) (fun e => ?_) fun _ _ _ _ e => ?_), hS, hW, h.ne, h.nis, h.niw⟩
  · have := h.blk
    unfold SpBlk at this
    rw [this] at e
    cases e
  · obtain ⟨es, cl, hb⟩ := h.rows.block
    rw [hb] at e
    cases e
  · subst e; exact isMap_ne h.is_ _ _ _ he
  · subst e; exact isMap_ne h.wt _ _ _ he
  · rw [he] at e; cases e

def Sp2 (bs bw : Nat) (i : Nat) : Prop := i = bs ∨ i = bw

/-- A list of clauses that came in: its rows. -/
theorem rows_at {w : World} {A : Option Addr} {n : Nat} {l : List (List Int)} (h : Kd.C (Kd.slice 3 (Kd.int .i64)) w A n l) {m : Nat} (hm : m < n) :
    ∃ ad A0 c0, A = some ad ∧ w.cell? (ad.add m) = some (.slice A0 (row l m).length c0) ∧ (row l m).length ≤ c0 ∧ (Kd.int .i64).C w A0 (row l m).length (row l m) := by
  obtain ⟨ad, c, e, _, hK, hc0⟩ := Kd.C_get h ([] : List Int) (m : Int) (by omega) (by omega)
  rw [Int.toNat_natCast] at hc0 hK
  obtain ⟨A0, c0, rfl, l0, g0⟩ := hK
  exact ⟨ad, A0, c0, e, by have hq := hc0 0 _ rfl; rwa [Nat.add_zero, show (m * (Kd.slice 3 (Kd.int .i64)).sz) = m from Nat.mul_one m] at hq, l0, g0⟩

/-! ### ask, way by way -/
section
variable {w : World} {g bi bs bw : Nat} {lv : Value} {S W : List Int} {A : Option Addr} {c : List Int} {cap : Nat}
theorem ask_c_none (hg : SpBlk w g lv bi bs bw) (hS : IsSet Tryd.prog 3 w bs S) (hW : IsSet Tryd.prog 3 w bw W) (hne : bs ≠ bw)
    (hlS : S.length < 9223372036854775807) (hlW : W.length < 9223372036854775807) (hWS : ∀ x ∈ W, x ∈ S) (hc : Lits c) (hC : Kd.C (Kd.int .i64) w A c.length c) (hcap : c.length ≤ cap) (hlen : c.length ≤ 9223372036854775807) (h : askLoop S 0 c = none) :
    Calls Tryd.prog 32 #[.pointer (some ⟨g, 0, none⟩), .slice A c.length cap] w fun e w' => e = .returned (.bool true) ∧ w' = w :=
  (ask_calls hg hS hW hne hlS hlW hWS hc hC hcap hlen).mono fun e w' hp => by
    rcases hp with ⟨_, h1, h2⟩ | ⟨h', _⟩ | ⟨z, _, h', _⟩
    · exact ⟨h1, h2⟩
    · rw [h] at h'; cases h'
    · rw [h] at h'; cases h'
theorem ask_c_zero (hg : SpBlk w g lv bi bs bw) (hS : IsSet Tryd.prog 3 w bs S) (hW : IsSet Tryd.prog 3 w bw W) (hne : bs ≠ bw)
    (hlS : S.length < 9223372036854775807) (hlW : W.length < 9223372036854775807) (hWS : ∀ x ∈ W, x ∈ S) (hc : Lits c) (hC : Kd.C (Kd.int .i64) w A c.length c) (hcap : c.length ≤ cap) (hlen : c.length ≤ 9223372036854775807) (h : askLoop S 0 c = some 0) :
    Calls Tryd.prog 32 #[.pointer (some ⟨g, 0, none⟩), .slice A c.length cap] w fun e w' => e = .returned (.bool false) ∧ w' = w :=
  (ask_calls hg hS hW hne hlS hlW hWS hc hC hcap hlen).mono fun e w' hp => by
    rcases hp with ⟨h', _⟩ | ⟨_, h1, h2⟩ | ⟨z, hz, h', _⟩
    · rw [h] at h'; cases h'
    · exact ⟨h1, h2⟩
    · rw [h] at h'; exact absurd (by simpa using h'.symm) hz
theorem ask_c_one {z : Int} (hg : SpBlk w g lv bi bs bw) (hS : IsSet Tryd.prog 3 w bs S) (hW : IsSet Tryd.prog 3 w bw W) (hne : bs ≠ bw)
    (hlS : S.length < 9223372036854775807) (hlW : W.length < 9223372036854775807) (hWS : ∀ x ∈ W, x ∈ S) (hc : Lits c) (hC : Kd.C (Kd.int .i64) w A c.length c) (hcap : c.length ≤ cap) (hlen : c.length ≤ 9223372036854775807) (h : askLoop S 0 c = some z) (hz : z ≠ 0) :
    Calls Tryd.prog 32 #[.pointer (some ⟨g, 0, none⟩), .slice A c.length cap] w fun e w' => e = .returned (.bool true) ∧ (IsSet Tryd.prog 3 w' bs (z :: S) ∧ IsSet Tryd.prog 3 w' bw (z :: W) ∧ Fr w w' (Sp2 bs bw)) :=
  (ask_calls hg hS hW hne hlS hlW hWS hc hC hcap hlen).mono fun e w' hp => by
    rcases hp with ⟨h', _⟩ | ⟨h', _⟩ | ⟨z', _, h', h1, h2⟩
    · rw [h] at h'; cases h'
    · rw [h] at h'; exact absurd (by simpa using h') hz
    · rw [h] at h'
      cases h'
      exact ⟨h1, h2⟩
end

/-- What a call of 'run' comes to. -/
def RunPost (l : List (List Int)) (fr : List Int) (bs bw : Nat) (w : World) (e : Ending) (w' : World) : Prop :=
  Fr w w' (Sp2 bs bw) ∧ ((Fails l fr ∧ e = .returned (.bool false)) ∨ (¬ Fails l fr ∧ e = .returned (.bool true) ∧ ∃ S, IsSet Tryd.prog 3 w' bs S ∧ S.Nodup ∧ Apart S ∧ Lits S ∧ ∀ x, x ∈ S ↔ Der l fr x))

set_option maxRecDepth 100000 in
set_option maxHeartbeats 4000000 in
theorem run_calls {w0 w : World} {g bi bs bw base n : Nat} {A : Option Addr} {cap : Nat} {l : List (List Int)} {fr S W : List Int} (h : SpW w g (.slice A l.length cap) bi bs bw base n (inOf l) S W) (hn : n < 4611686018427387904) (hR : RInv l fr S W [] fr.length l.length)
    (hC : Kd.C (Kd.slice 3 (Kd.int .i64)) w0 A l.length l) (hcap : l.length ≤ cap) (h0 : Below w0.heap.size w0 w) (hb1 : w0.heap.size ≤ bs) (hb2 : w0.heap.size ≤ bw) (hl : lRight l = true)
    (hsz : fr.length + total l < 4611686018427387904) (hll : l.length < 4611686018427387904) (hcl : ∀ c ∈ l, c.length < 4611686018427387904) :
    Calls Tryd.prog 33 #[.pointer (some ⟨g, 0, none⟩)] w (RunPost l fr bs bw w) := by
  have HSW := Aside0.mk h
  have HRI := Aside0.mk hR
  have HC := Aside0.mk hC
  have H0 := Aside0.mk h0
  have HL := Aside0.mk hl
  have HCL := Aside0.mk hcl
  clear h hR hC h0 hl hcl
  go_enter Tryd.func33, Tryd.ntmps33
  go_wp2
  go_loopg [3] (2 * (fr.length + total l - S.length) + W.length) (fun kq v3 wr => ∃ S W : List Int, Aside0 (SpW wr g (.slice A l.length cap) bi bs bw base n (inOf l) S W) ∧ Aside0 (RInv l fr S W [] fr.length l.length) ∧ Aside0 (Fr w wr (Sp2 bs bw)) ∧ Aside0 (2 * (fr.length + total l - S.length) + W.length ≤ kq))
  case atStart => exact ⟨S, W, HSW, HRI, ⟨Fr.refl _ _⟩, ⟨Nat.le_refl _⟩⟩
  case round =>
    obtain ⟨S, W, hsw, hri, hfr, hk⟩ := hrel
    have hc3 := hsw.out.blk.c3
    have hlen := hsw.out.wt.len im
    by_cases hW : W = []
    · subst hW
      simp only [List.length_nil] at hlen
      have hend := Lib.hid hri.out.end_
      go_wp2
      go_ret
      exact ⟨hfr.out, .inr ⟨hend.out.1, rfl, S, hsw.out.is_, hri.out.ndS, hri.out.way.apart, hri.out.lit, hend.out.2⟩⟩
    · have hpos : 0 < W.length := List.length_pos_iff.2 hW
      have hposB : decide ((W.length : Int) > 0) = true := by simp; omega
      have hposC : decide (0 < (W.length : Int)) = true := by simp; omega
      have hposD : (0 : Int) < (W.length : Int) := by omega
      have hWf : ∀ x ∈ W, wfI x := fun x hx => by have := hri.out.lit x (hri.out.sub x hx); exact wf_lit this.1 this.2.1
      have HWf := Aside0.mk hWf
      have HW := Aside0.mk hW
      clear hWf hW
      go_wp2_with (first
        | (at_range; refine set_range im rfl _ rfl rfl hsw.out.wt hri.out.nd HWf.out ?_; intro w1 cnt hgo hgr hs1)
        | go_in)
      go_frame
      have hf1 : ∀ i, i < wr.heap.size → w1.heap[i]? = wr.heap[i]? := fun i hi => hgr.block i hi (by simp)
      have hsw1 := hsw.out.turn (hsw.out.is_.at_ (hf1 _ hsw.out.is_.lt)) (hsw.out.wt.at_ (hf1 _ hsw.out.wt.lt)) (fun i hi _ _ _ => hf1 i hi)
      have hfr1 := Aside0.mk (hfr.out.then_ (Fr.of_grown (S := fun _ => False) hgr (by simp)) (by simp))
      have HSW1 := Aside0.mk hsw1
      have HGO := Aside0.mk hgo
      have hgoI := Aside0.mk hgo.iter
      have hsz1 : wr.heap.size < w1.heap.size := by omega
      have hszr : w.heap.size ≤ wr.heap.size := hfr.out.size
      have hglt : g < wr.heap.size := hsw.out.blk.lt
      have hslt : bs < wr.heap.size := hsw.out.is_.lt
      clear hf1 hsw1 hgo hgr hs1 hsw hfr hlen
      refine wp_loop_rounds 1 ?_
      rw [rounds_succ]
      go_wp2_with (first
        | (at_next; refine set_next im rfl _ rfl rfl HGO.out ?_ ?_)
        | go_in)
      · intro he
        exact absurd he HW.out
      · intro x c w2 cnt2 hxW hxwf hgo2 _ hg2 hs2 hen
        have hS2 : IsSet Tryd.prog 3 w2 bs S := HSW1.out.is_.at_ (hg2.block bs HSW1.out.is_.lt fun e => by injection e; omega)
        have hsw2 := HSW1.out.turn hS2 hgo2.set fun i hi h1 h2 h3 => hg2.block i hi fun e => by
          obtain ⟨since, seen, c0, hb⟩ := hgoI.out
          cases e
          exact h3 _ _ _ _ hb
        have hfr2 := hfr1.out.then_ (Fr.of_grown (S := fun i => i = wr.heap.size) hg2 (fun j e _ => by cases e; rfl)) (fun i e => .inr (by omega))
        have hc3' := hsw2.blk.c3
        have hxb := hri.out.lit x (hri.out.sub x hxW)
        have HSW2 := Aside0.mk hsw2
        have HFR2 := Aside0.mk hfr2
        have HW2 := Aside0.mk hgo2.set
        have hxm := Aside0.mk hxW
        have hxwf' := Aside0.mk hxwf
        have HSZ2 := Aside0.mk hg2.size
        clear hsw2 hfr2 hS2 hgo2 hg2 hs2 hxW hxwf HSW1 hfr1 HGO hgoI
        go_wp2_with (first
          | (at_delete; refine set_delete im rfl _ _ rfl HW2.out hri.out.nd hxwf'.out hxm.out rfl rfl ?_; intro w3 hW3 ht3; have HSW3 := Aside0.mk (HSW2.out.turn (HSW2.out.is_.at_ (turned_other ht3 HSW2.out.ne HSW2.out.is_.lt)) hW3 (fun i hi h1 h2 h3 => turned_other ht3 h2 hi)); have HFR3 := Aside0.mk (HFR2.out.then_ (Fr.of_turned (S := fun i => i = bw) ht3 rfl) (fun i e => .inl (.inr e))); have hc1' := HSW3.out.blk.c1; obtain ⟨v, hrun, hoi, hvl, _⟩ := HSW3.out.rows.look gm (by unfold maxLen; omega) (x := -x) (wf_lit (by omega) (by omega)); obtain ⟨Av, cv, rfl, hrv⟩ := own_reads (k := .i64) hoi.1; have HRV := Aside0.mk hoi; have HRI3 := Aside0.mk (hri.out.pop hxm.out); have hsz3 := Aside0.mk (Nat.lt_of_lt_of_le hsz1 (Nat.le_trans HSZ2.out ht3.grown.size)); have hri0 := hri; clear hW3 ht3 hoi hrv hri)
          | go_in)
        have hszw : W.length ≤ S.length := hri0.out.sizeW
        have hszs : S.length ≤ fr.length + total l := hri0.out.size
        have hera : (W.erase x).length + 1 = W.length := by have := List.length_erase_of_mem hxm.out; omega
        have HERA := Lib.hid hera
        have hw3 : wr.heap.size < w3.heap.size := hsz3.out
        clear hera hc3 hc3' hc1' hposB hposC hposD hrun hri0
        go_loopw [34] (fun v34 w4 => ∃ (i : Nat) (S' W' : List Int), v34 = .int .i64 i ∧ Aside0 (i ≤ (inOf l (-x)).length) ∧ Aside0 (SpW w4 g (.slice A l.length cap) bi bs bw base n (inOf l) S' W') ∧ Aside0 (RInv l fr S' W' ((inOf l (-x)).drop i) fr.length l.length) ∧ Aside0 (Fr w w4 (Sp2 bs bw)) ∧
            Aside0 (2 * (fr.length + total l - S'.length) + W'.length ≤ 2 * (fr.length + total l - S.length) + (W.erase x).length) ∧ Aside0 (w4.ownsInts base 3 .i64 (.slice Av (inOf l (-x)).length cv) (inOf l (-x))))
          (fun i _ => (inOf l (-x)).length - (intOf i).toNat)
        case atStart => exact ⟨0, S, W.erase x, rfl, ⟨Nat.zero_le _⟩, HSW3, HRI3, HFR3, ⟨Nat.le_refl _⟩, HRV⟩
        case round =>
          clear HSW3 HFR3 HRV HRI3
          obtain ⟨i, S', W', rfl, hi, hsw, hri, hfr, hm, hrv⟩ := hrel
          have hi := hi.out
          by_cases hlt : i < (inOf l (-x)).length
          · obtain ⟨m, hml, hz, hxm'⟩ := mem_inOf.1 (rd_mem hlt)
            have hdrop := ask_drop hlt
            rw [hz] at hdrop
            obtain ⟨ad, e, hcell⟩ := (own_reads' (k := .i64) hrv.out.1).at_ (i : Int) (by omega) (by omega)
            cases e
            rw [Int.toNat_natCast, hz] at hcell
            have hB4 := hfr.out.below H0.out H0.out.size (fun j hj => by rcases hj with rfl | rfl <;> assumption)
            obtain ⟨ad', A0, c0, e, hcell', hlc, hrow⟩ := rows_at (Kd.C_below HC.out hB4) hml
            cases e
            have hc0 := hsw.out.blk.c0
            have hri1 : RInv l fr S' W' ((m : Int) :: (inOf l (-x)).drop (i + 1)) fr.length l.length := by rw [← hdrop]; exact hri.out
            have hrm := row_mem hml
            have hlits := lits_of (cRight_of HL.out hrm)
            have hcl := HCL.out _ hrm
            have hs1 := hri1.size
            have hs2 := hri1.sizeW
            have h0s : ∀ z ∈ row l m, z ≠ 0 := fun z hz => (hlits z hz).2.2
            have hmB : (m : Int) < (l.length : Int) := by omega
            have hmB0 : (0 : Int) ≤ (m : Int) := by omega
            cases hask : askLoop S' 0 (row l m) with
            | none =>
              have HCON := Lib.hid (ask_c_none hsw.out.blk hsw.out.is_ hsw.out.wt hsw.out.ne (by omega) (by omega) hri1.sub hlits hrow hlc (by omega) hask)
              have HR1 := Aside0.mk (hri1.again (ask_none h0s hask))
              clear hdrop hz hlits hcl h0s hri1 hri hrow hask hs1 hs2 hB4
              go_wp2_with (go_at_call 32; refine (HCON.out).mono ?_; rintro e w' ⟨rfl, rfl⟩)
              go_roundw
              case rel => exact ⟨i + 1, S', W', by go_num, ⟨hlt⟩, hsw, HR1, hfr, hm, hrv⟩
              case measure => simp [intOf]; omega
            | some z =>
              by_cases hz0 : z = 0
              · subst hz0
                have HCON := Lib.hid (ask_c_zero hsw.out.blk hsw.out.is_ hsw.out.wt hsw.out.ne (by omega) (by omega) hri1.sub hlits hrow hlc (by omega) hask)
                have hend := Lib.hid (hri1.fails hrm (ask_zero h0s hask))
                clear hdrop hz hlits hcl h0s hri1 hri hrow hask hs1 hs2 hB4
                go_wp2_with (go_at_call 32; refine (HCON.out).mono ?_; rintro e w' ⟨rfl, rfl⟩)
                go_ret
                exact ⟨hfr.out, .inl ⟨hend.out, rfl⟩⟩
              · obtain ⟨z1, z2, z3, z4⟩ := ask_one h0s hask hz0
                have hzb := hlits z z1
                have HCON := Lib.hid (ask_c_one hsw.out.blk hsw.out.is_ hsw.out.wt hsw.out.ne (by omega) (by omega) hri1.sub hlits hrow hlc (by omega) hask hz0)
                have hri2 := hri1.more (hri1.unit hrm z1 z4) hz0 z2 z3 ⟨hzb.1, hzb.2.1⟩ (.inr ⟨_, hrm, z1⟩)
                have hss := hri2.size
                simp only [List.length_cons] at hss
                have HR1 := Aside0.mk (hri2.again (.inl ⟨z, z1, by simp⟩))
                clear hdrop hz hlits hcl h0s hri1 hri hrow hask hs1 hs2 hB4 hri2 z1 z2 z3 z4 hz0 hzb
                go_wp2_with (go_at_call 32; refine (HCON.out).mono ?_; rintro e w' ⟨rfl, hS', hW', hf'⟩; have HQ := Aside0.mk (And.intro hS' (And.intro hW' hf')); clear hS' hW' hf')
                go_roundw
                case rel =>
                  refine ⟨i + 1, z :: S', z :: W', by go_num, ⟨hlt⟩, ⟨hsw.out.turn HQ.out.1 HQ.out.2.1 (fun j hj h1 h2 _ => HQ.out.2.2.block j hj (fun h => by rcases h with h | h; exact h1 h; exact h2 h))⟩, HR1, ⟨hfr.out.trans HQ.out.2.2⟩, ⟨?_⟩, ⟨ownsInts_move hrv.out fun j hj => ?_⟩⟩
                  · have := hm.out; simp only [List.length_cons]; omega
                  · obtain ⟨cells, hcj⟩ := own_typed hrv.out.1 j hj
                    refine HQ.out.2.2.block j (lt_of_block hcj) fun h => ?_
                    rcases h with h | h
                    · subst h; exact isMap_ne hsw.out.is_ _ _ _ hcj
                    · subst h; exact isMap_ne hsw.out.wt _ _ _ hcj
                case measure => simp [intOf]; omega
          · have hi' : i = (inOf l (-x)).length := by omega
            subst hi'
            go_wp2
            go_roundg (2 * (fr.length + total l - S'.length) + W'.length)
            case measure => have := hm.out; have := hk.out; have := HERA.out; omega
            case rel => exact ⟨S', W', hsw, ⟨by have := hri.out; rw [List.drop_length] at this; exact this⟩, hfr, ⟨Nat.le_refl _⟩⟩
end Go.Proofs.YtnknoaolbjofiaaDoor.Cl
