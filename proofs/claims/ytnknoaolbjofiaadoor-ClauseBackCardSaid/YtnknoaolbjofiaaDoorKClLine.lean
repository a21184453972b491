/- For the statement of the row ClauseBack: what its proof needs of the text ClLine. -/
import Derived.Test.YtnknoaolbjofiaaDoorKClText
import Derived.Test.YtnknoaolbjofiaaDoorKClIdle14
import Derived.Test.YtnknoaolbjofiaaDoorKWMore

set_option linter.unusedVariables false
set_option linter.unusedSimpArgs false
namespace Go.Proofs.YtnknoaolbjofiaaDoor.Cl
open Go.RowKit Go.Proofs.YtnknoaolbjofiaaDoorW.PrintWords Go.Proofs.YtnknoaolbjofiaaDoorW.PrintLast Go.Proofs.YtnknoaolbjofiaaDoorW.PrintMore
def strs (l : List (List UInt8)) : List ByteArray := l.map fun x => ⟨x.toArray⟩
theorem strs_length (l : List (List UInt8)) : (strs l).length = l.length := by simp [strs]
theorem splitBy_length (b : UInt8) : ∀ s, (splitBy b s).length ≤ s.length + 1
  | [] => by simp [splitBy]
  | x :: s => by
    have h := splitBy_length b s
    unfold splitBy
    split
    · simp; omega
    · split
      · simp
      · rename_i w r e
        rw [e] at h
        simp at h ⊢
        omega
theorem splitBy_sub (b : UInt8) : ∀ s, ∀ w ∈ splitBy b s, w.length ≤ s.length
  | [], w, h => by simp [splitBy] at h; simp [h]
  | x :: s, w, h => by
    have ih := splitBy_sub b s
    unfold splitBy at h
    split at h
    · rcases List.mem_cons.1 h with rfl | h
      · simp
      · have := ih w h; simp; omega
    · split at h
      · obtain rfl := List.mem_singleton.1 h; simp
      · rename_i w0 r e
        rcases List.mem_cons.1 h with rfl | h
        · have := ih w0 (by rw [e]; simp); simp; omega
        · have := ih w (by rw [e]; simp [h]); simp; omega
/-- Words, as they lie in a block of their own. -/
def StrsAt (W : World) (b : Nat) (l : List (List UInt8)) : Prop := W.heap[b]? = some (.cells ((strs l).map Value.string).toArray 9 (0, 0))
theorem StrsAt.lt {W : World} {b : Nat} {l : List (List UInt8)} (h : StrsAt W b l) : b < W.heap.size := (Array.getElem?_eq_some_iff.1 h).elim fun h _ => h
theorem StrsAt.below {W W' : World} {b : Nat} {l : List (List UInt8)} (h : StrsAt W b l) (hb : Below W.heap.size W W') : StrsAt W' b l := (hb.block b h.lt).trans h
theorem StrsAt.grown {W W' : World} {b : Nat} {l : List (List UInt8)} {row : Option Nat} (h : StrsAt W b l) (hg : W.grownBy W' row) (hne : row ≠ some b) : StrsAt W' b l := (hg.block b h.lt (fun e => hne e.symm)).trans h
theorem at_strs {w : World} {b : Nat} {l : List (List UInt8)} (h : StrsAt w b l) {j : Nat} (hj : j < l.length) : w.cell? ⟨b, j, none⟩ = some (.string ⟨l[j].toArray⟩) := by
  unfold World.cell?
  rw [h]
  simp [strs, hj]
theorem split_calls (b : UInt8) (l : List UInt8) (hsz : l.length ≤ 1000000000) (w : World) (hL : Libs w) :
    Calls Tryd.prog 45 #[.string ⟨l.toArray⟩, .string ⟨#[b]⟩] w fun e w' => e = .returned (.slice (some ⟨w.heap.size, 0, none⟩) (splitBy b l).length (splitBy b l).length) ∧ StrsAt w' w.heap.size (splitBy b l) ∧ Below w.heap.size w w' := by
  obtain ⟨m, hm⟩ := hL.maxlen
  have hsize : (⟨l.toArray⟩ : ByteArray).size = l.length := by simp [ByteArray.size]
  have hs := split_is b ⟨l.toArray⟩
  have hlen := Lib.splitB_all ⟨#[b]⟩ (by show 1 ≤ 1; exact Nat.le_refl _) 0 _ (⟨l.toArray⟩ : ByteArray) rfl
  have hpieces : Lib.splitB ⟨#[b]⟩ 0 (Lib.countB ⟨l.toArray⟩ ⟨#[b]⟩) ⟨l.toArray⟩ = strs (splitBy b l) := by
    have h2 : (⟨l.toArray⟩ : ByteArray).data.toList = l := by simp
    rw [h2] at hs
    unfold strs
    rw [← hs, List.map_map]
    conv => lhs; rw [← List.map_id (Lib.splitB ⟨#[b]⟩ 0 (Lib.countB ⟨l.toArray⟩ ⟨#[b]⟩) ⟨l.toArray⟩)]
    apply List.map_congr_left
    intro x _
    show x = ⟨x.data.toList.toArray⟩
    simp
  have hcl : Lib.countB ⟨l.toArray⟩ ⟨#[b]⟩ + 1 = (splitBy b l).length := by
    rw [← hlen, hpieces, strs_length]
  refine (Tryd.strings_Split ⟨l.toArray⟩ ⟨#[b]⟩ m w (by omega) hm (by show 1 ≤ 1; exact Nat.le_refl _)).mono ?_
  rintro e w' ⟨rfl, rfl⟩
  rw [hcl, hpieces]
  exact ⟨rfl, heap_alloc_new w _, below_alloc (Below.refl _ _) _⟩
def headB (W : List (List UInt8)) (v n : Int) (ok : Bool) : Prop := match headW W with
  | some (a, b) => ok = true ∧ v = a ∧ n = b
  | none => ok = false
theorem numB_in {v : Nat} {w : List UInt8} : numB (-(v : Int)) v w = (numIn v w).isSome := by
  unfold numB numIn
  cases numP w with
  | none => rfl
  | some n =>
    simp only []
    by_cases h : n.natAbs ≤ v
    · rw [if_pos h, decide_eq_true (by omega), decide_eq_true (by omega)]; rfl
    · rw [if_neg h]
      by_cases h1 : -(v : Int) ≤ n
      · rw [decide_eq_false (show ¬ n ≤ v by omega), Bool.and_false]; rfl
      · rw [decide_eq_false h1, Bool.false_and]; rfl
theorem numB_nat {v : Nat} {w : List UInt8} {n : Int} (h : numB 0 v w = true) (hn : numP w = some n) : numIn v w = some n ∧ 0 ≤ n := by
  unfold numB at h
  rw [hn] at h
  simp at h
  unfold numIn
  rw [hn]
  exact ⟨if_pos (by omega), h.1⟩
theorem numB_nat_no {v : Nat} {w : List UInt8} (h : numB 0 v w = false) : ∀ n, numIn v w = some n → ¬ 0 ≤ n := by
  intro n hn h0
  unfold numIn at hn
  unfold numB at h
  cases hp : numP w with
  | none => rw [hp] at hn; cases hn
  | some m =>
    rw [hp] at hn h
    simp only [] at hn h
    split at hn
    · cases hn
      rw [decide_eq_true h0, decide_eq_true (by omega)] at h
      cases h
    · cases hn
theorem head_plain {c d : List UInt8} {n1 n2 : Int} (h1 : numB 0 1048576 c = true → numP c = some n1) (h2 : numB 0 2147483647 d = true → numP d = some n2) : headB [[112], [99, 110, 102], c, d] n1 n2 (numB 0 1048576 c && numB 0 2147483647 d) := by
  have e : headW [[112], [99, 110, 102], c, d] = (match numIn 1048576 c, numIn 2147483647 d with
    | some v, some n => if 0 ≤ v ∧ 0 ≤ n then some (v.toNat, n.toNat) else none
    | _, _ => none) := by simp only [headW]; simp; rfl
  unfold headB
  rw [e]
  cases e1 : numB 0 1048576 c with
  | false =>
    have hno := numB_nat_no (v := 1048576) e1
    cases x1 : numIn 1048576 c with
    | none => rfl
    | some m1 =>
      cases x2 : numIn 2147483647 d with
      | none => rfl
      | some m2 =>
        simp only []
        rw [if_neg (fun h => hno m1 x1 h.1)]
        rfl
  | true =>
    obtain ⟨y1, z1⟩ := numB_nat (v := 1048576) e1 (h1 e1)
    rw [y1]
    cases e2 : numB 0 2147483647 d with
    | false =>
      have hno := numB_nat_no (v := 2147483647) e2
      cases x2 : numIn 2147483647 d with
      | none => rfl
      | some m2 =>
        simp only []
        rw [if_neg (fun h => hno m2 x2 h.2)]
        rfl
    | true =>
      obtain ⟨y2, z2⟩ := numB_nat (v := 2147483647) e2 (h2 e2)
      rw [y2]
      simp only []
      rw [if_pos ⟨z1, z2⟩]
      exact ⟨rfl, by omega, by omega⟩
set_option maxRecDepth 100000 in
set_option maxHeartbeats 4000000 in
theorem head_calls (l : List UInt8) (hsz : l.length ≤ 1000000000) (w : World) (hL : Libs w) :
    Calls Tryd.prog 46 #[.string ⟨l.toArray⟩] w fun e w' => (∃ v n ok, e = .returned (.tuple #[.int .i64 v, .int .i64 n, .bool ok]) ∧ headB (splitBy 32 l) v n ok) ∧ Below w.heap.size w w' := by
  have hsp := split_calls 32 l hsz w hL
  have hsub := splitBy_sub 32 l
  have hwl := splitBy_length 32 l
  generalize splitBy 32 l = W at hsp hsub hwl ⊢
  have hwl : W.length ≤ 1000000001 := by omega
  have HSP := Lib.hid hsp
  have HL := Lib.hid hL
  clear hsp hL
  by_cases h4 : W.length = 4
  · obtain ⟨a, b, c, d, rfl⟩ : ∃ a b c d, W = [a, b, c, d] := by
      match W, h4 with
      | [a, b, c, d], _ => exact ⟨a, b, c, d, rfl⟩
    have hc4 : c.length ≤ 1000000000 := by have := hsub c (by simp); omega
    have hd4 : d.length ≤ 1000000000 := by have := hsub d (by simp); omega
    clear h4 hsub hwl
    have hea := str_eq a [112]
    have heb := str_eq b [99, 110, 102]
    go_enter Tryd.func46, Tryd.ntmps46
    go_wp2_with fail
    refine HSP.out.mono ?_
    rintro e w1 ⟨rfl, hC, hb1⟩
    have HB1 := Aside0.mk hb1
    have hc0 : w1.cell? ⟨w.heap.size, 0, none⟩ = some (.string ⟨a.toArray⟩) := at_strs hC (j := 0) (by simp)
    have hc1 : w1.cell? ⟨w.heap.size, 1, none⟩ = some (.string ⟨b.toArray⟩) := at_strs hC (j := 1) (by simp)
    have hc2 : w1.cell? ⟨w.heap.size, 2, none⟩ = some (.string ⟨c.toArray⟩) := at_strs hC (j := 2) (by simp)
    have hc3 : w1.cell? ⟨w.heap.size, 3, none⟩ = some (.string ⟨d.toArray⟩) := at_strs hC (j := 3) (by simp)
    clear hC hb1 HSP
    by_cases ha : a = [112]
    · by_cases hb : b = [99, 110, 102]
      · subst ha
        subst hb
        have hn1 := number_calls c hc4 0 1048576
        have hn2 := number_calls d hd4 0 2147483647
        have HN1 := Lib.hid hn1
        have HN2 := Lib.hid hn2
        have HC3 := Aside0.mk hc3
        clear hn1 hn2 hea heb hc3
        go_wp2_with fail
        refine (HN1.out _ (HL.out.below HB1.out)).mono ?_
        rintro e w2 ⟨⟨n1, rfl, h1⟩, hb2⟩
        have hc3 := pw_cell_below hb2 HC3.out
        have HB2 := Aside0.mk (below_then HB1.out HB1.out.size hb2)
        have H1 := Lib.hid h1
        clear hb2 HB1 h1 HC3
        have HPL := Lib.hid (fun (n2 : Int) (h2 : numB 0 2147483647 d = true → numP d = some n2) => head_plain H1.out h2)
        generalize numB 0 1048576 c = b1 at HPL ⊢
        go_wp2_with fail
        refine (HN2.out _ (HL.out.below HB2.out)).mono ?_
        rintro e w3 ⟨⟨n2, rfl, h2⟩, hb3⟩
        have HB3 := Aside0.mk (below_then HB2.out HB2.out.size hb3)
        have HPL2 := Lib.hid (HPL.out n2 h2)
        clear hb3 HB2 h2 HPL
        generalize numB 0 2147483647 d = b2 at HPL2 ⊢
        cases b1 with
        | false =>
          go_wp2
          go_ret3
          exact ⟨⟨_, _, _, rfl, HPL2.out⟩, HB3.out⟩
        | true =>
          go_wp2
          go_ret3
          exact ⟨⟨_, _, _, rfl, HPL2.out⟩, HB3.out⟩
      · have HX := Lib.hid (show headW [a, b, c, d] = none from if_neg (fun h => hb h.2))
        have hbb : (b == [99, 110, 102]) = false := by simpa using hb
        clear hea heb
        go_wp2
        go_ret3
        exact ⟨⟨_, _, _, rfl, by unfold headB; rw [HX.out]⟩, HB1.out⟩
    · have HX := Lib.hid (show headW [a, b, c, d] = none from if_neg (fun h => ha h.1))
      have haa : (a == [112]) = false := by simpa using ha
      clear hea heb
      go_wp2
      go_ret3
      exact ⟨⟨_, _, _, rfl, by unfold headB; rw [HX.out]⟩, HB1.out⟩
  · have hnone := headW_len h4
    have HN := Lib.hid hnone
    have hdec : decide ((W.length : Int) = 4) = false := decide_eq_false (by omega)
    have hdec2 : (W.length == 4) = false := by simpa using h4
    clear hnone hsub
    go_enter Tryd.func46, Tryd.ntmps46
    go_wp2_with fail
    refine HSP.out.mono ?_
    rintro e w1 ⟨rfl, hC, hb1⟩
    have HB1 := Aside0.mk hb1
    clear hC hb1 HSP
    go_wp2
    go_ret3
    exact ⟨⟨_, _, _, rfl, by unfold headB; rw [HN.out]⟩, HB1.out⟩
theorem lineP_last {v : Nat} {x : List UInt8} : lineP v [x] = if numIn v x = some 0 then some [] else none := rfl
theorem lineP_step {v : Nat} {x : List UInt8} {r : List (List UInt8)} (h : r ≠ []) : lineP v (x :: r) = (match numIn v x with
    | some n => if n = 0 then none else (lineP v r).map (n :: ·)
    | none => none) := by
  cases r with
  | nil => exact absurd rfl h
  | cons y r => rfl
/-- How far a line has come: the words from k on, what was told so far. -/
def LineAt (v : Nat) (W : List (List UInt8)) (k : Nat) (out : List Int) : Prop := out.length ≤ k ∧ ((k < W.length ∧ lineP v W = (lineP v (W.drop k)).map (out ++ ·)) ∨ (k = W.length ∧ lineP v W = some out))
theorem lineAt_zero {v : Nat} {W : List (List UInt8)} (h : W ≠ []) : LineAt v W 0 [] :=
  ⟨Nat.le_refl _, .inl ⟨List.length_pos_iff.2 h, by simp⟩⟩
/-- One word. -/
theorem lineAt_step {v : Nat} {W : List (List UInt8)} {k : Nat} {out : List Int} (hk : k < W.length) (h : LineAt v W k out) :
    (numIn v W[k] = none → lineP v W = none) ∧
    (∀ n, numIn v W[k] = some n → (n = 0 ↔ ¬ k + 1 = W.length) → lineP v W = none) ∧
    (∀ n, numIn v W[k] = some n → n ≠ 0 → ¬ k + 1 = W.length → LineAt v W (k + 1) (out ++ [n])) ∧
    (∀ n, numIn v W[k] = some n → n = 0 → k + 1 = W.length → LineAt v W (k + 1) out) := by
  obtain ⟨ho, ⟨_, h⟩ | ⟨h1, _⟩⟩ := h
  · rw [List.drop_eq_getElem_cons hk] at h
    by_cases hl : k + 1 = W.length
    · have hd : W.drop (k + 1) = [] := by rw [hl]; simp
      rw [hd, lineP_last] at h
      refine ⟨fun e => ?_, fun n e e2 => ?_, fun n _ _ e3 => absurd hl e3, fun n e e0 _ => ⟨by omega, .inr ⟨hl, ?_⟩⟩⟩
      · rw [e] at h; simpa using h
      · have hn : n ≠ 0 := fun e0 => (e2.1 e0) hl
        rw [e, if_neg (fun e3 => hn (Option.some.inj e3))] at h
        simpa using h
      · rw [e, e0, if_pos rfl] at h
        simpa using h
    · have hd : W.drop (k + 1) ≠ [] := fun e => by
        have := congrArg List.length e
        rw [List.length_drop] at this
        simp at this
        omega
      rw [lineP_step hd] at h
      refine ⟨fun e => ?_, fun n e e2 => ?_, fun n e e0 _ => ⟨by simp; omega, .inl ⟨by omega, ?_⟩⟩, fun n _ _ e3 => absurd e3 hl⟩
      · rw [e] at h; simpa using h
      · have hn : n = 0 := e2.2 hl
        rw [e] at h
        simp only [] at h
        rw [if_pos hn] at h
        simpa using h
      · rw [e] at h
        simp only [] at h
        rw [if_neg e0] at h
        rw [h, Option.map_map]
        congr 1
        funext z
        simp
  · omega
theorem i64_neg {v : Nat} (h : v ≤ 1048576) : IntKind.i64.wrap (-(v : Int)) = -(v : Int) := IntWalk.i64_in _ (by omega)
set_option maxRecDepth 100000 in
set_option maxHeartbeats 8000000 in
theorem line_calls (l : List UInt8) (hsz : l.length ≤ 1000000000) (v : Nat) (hv : v ≤ 1048576) (w : World) (hL : Libs w) :
    Calls Tryd.prog 47 #[.string ⟨l.toArray⟩, .int .i64 v] w fun e w' => (∃ val ok, e = .returned (.tuple #[val, .bool ok]) ∧ ok = (lineP v (splitBy 32 l)).isSome ∧ ∀ c, lineP v (splitBy 32 l) = some c → Kd.N (Kd.int .i64) 3 w' w.heap.size (fun k => w.heap.size ≤ k) val c) ∧ Below w.heap.size w w' := by
  have hsp := split_calls 32 l hsz w hL
  have hsub := splitBy_sub 32 l
  have hwl := splitBy_length 32 l
  have hne := splitBy_ne 32 l
  generalize splitBy 32 l = W at hsp hsub hwl hne ⊢
  have hwl : W.length ≤ 1000000001 := by omega
  have hpos : 0 < W.length := List.length_pos_iff.2 hne
  have hsub : ∀ x ∈ W, x.length ≤ 1000000000 := fun x hx => by have := hsub x hx; omega
  have h0 := lineAt_zero (v := v) hne
  have HSP := Lib.hid hsp
  have HL := Lib.hid hL
  have HSUB := Lib.hid hsub
  have H0 := Lib.hid h0
  have hneg := i64_neg hv
  clear hsp hL hsub h0 hne
  go_enter Tryd.func47, Tryd.ntmps47
  go_wp2_with fail
  refine HSP.out.mono ?_
  rintro e w1 ⟨rfl, hC, hb1⟩
  have HB1 := Aside0.mk hb1
  have HC := Aside0.mk hC
  clear hC hb1 HSP
  go_wp2
  go_loopw [7, 16] (fun v7 v16 wr => ∃ (k : Nat) (out : List Int), v16 = .int .i64 k ∧ Aside0 (k ≤ W.length) ∧ Aside0 (LineAt v W k out) ∧ Aside0 (Kd.N (Kd.int .i64) 3 wr w.heap.size (fun k => w.heap.size ≤ k) v7 out) ∧ Aside0 (Below w.heap.size w wr) ∧ Aside0 (StrsAt wr w.heap.size W) ∧ Aside0 (v7.ownBlock ≠ some w.heap.size)) (fun _ i _ => W.length - (intOf i).toNat)
  case atStart => exact ⟨0, [], rfl, ⟨Nat.zero_le _⟩, ⟨H0.out⟩, ⟨Kd.N_nil _ _ _ _ _⟩, HB1, HC, ⟨by simp [Value.ownBlock]⟩⟩
  case round =>
    clear HB1 HC H0
    obtain ⟨k, out, rfl, hk, hat, hN, hb, hC, hne7⟩ := hrel
    have hk := hk.out
    by_cases hlt : k < W.length
    · have hcell := at_strs hC.out hlt
      have hst := lineAt_step hlt hat.out
      have hnum := number_calls W[k] (HSUB.out _ (List.getElem_mem hlt)) (-(v : Int)) v
      have hnb := numB_in (v := v) (w := W[k])
      have hol := hat.out.1
      have HOL := Aside0.mk hol
      have HST := Lib.hid hst
      have HNUM := Lib.hid hnum
      have HNB := Lib.hid hnb
      clear hst hnum hnb hol
      generalize W[k] = x at hcell HST HNUM HNB
      have hsubw : IntKind.i64.wrap ((W.length : Int) - 1) = (W.length : Int) - 1 := IntWalk.i64_in _ (by omega)
      go_wp2_with fail
      refine (HNUM.out _ (HL.out.below hb.out)).mono ?_
      rw [HNB.out]
      rintro e w2 ⟨⟨n, rfl, hn⟩, hb2⟩
      have hC2 := hC.out.below hb2
      have hN2 := Kd.N_below hN.out hb2
      have HB2 := Aside0.mk (below_then hb.out hb.out.size hb2)
      have HC2 := Aside0.mk hC2
      have HN2 := Aside0.mk hN2
      clear hC hN hb hb2 hC2 hN2 hcell hat HNUM
      cases hin : numIn v x with
      | none =>
        have HF := Lib.hid (HST.out.1 hin)
        clear HST HNB hin hn
        go_wp2
        go_ret2
        exact ⟨⟨_, _, rfl, by rw [HF.out]; rfl, fun c hc => by rw [HF.out] at hc; cases hc⟩, HB2.out⟩
      | some m =>
        have hm : n = m := by
          have h1 := hn (by rw [hin]; rfl)
          unfold numIn at hin
          rw [h1] at hin
          simp only [] at hin
          split at hin
          · exact Option.some.inj hin
          · cases hin
        subst hm
        have hst := HST.out
        have h2 := hst.2.1 n hin
        have h3 := hst.2.2.1 n hin
        have h4 := hst.2.2.2 n hin
        clear HST HNB hn hst
        by_cases e0 : n = 0
        · by_cases el : k + 1 = W.length
          · have HF := Lib.hid (h4 e0 el)
            subst e0
            clear h2 h3 h4 hin
            have hd1 : decide ((k : Int) = (W.length : Int) - 1) = true := decide_eq_true (by omega)
            have hd2 : ((k : Int) == (W.length : Int) - 1) = true := by simp; omega
            go_wp2
            go_roundw
            case rel => exact ⟨k + 1, out, by go_num, ⟨hlt⟩, ⟨HF.out⟩, HN2, HB2, HC2, hne7⟩
            case measure => simp [intOf]; omega
          · have HF := Lib.hid (h2 ⟨fun _ => el, fun _ => e0⟩)
            subst e0
            clear h2 h3 h4 hin
            have hd1 : decide ((k : Int) = (W.length : Int) - 1) = false := decide_eq_false (by omega)
            have hd2 : ((k : Int) == (W.length : Int) - 1) = false := by simp; omega
            go_wp2
            go_ret2
            exact ⟨⟨_, _, rfl, by rw [HF.out]; rfl, fun c hc => by rw [HF.out] at hc; cases hc⟩, HB2.out⟩
        · have hn0 : decide (n = 0) = false := decide_eq_false e0
          have hn1 : (n == 0) = false := by simpa using e0
          by_cases el : k + 1 = W.length
          · have HF := Lib.hid (h2 ⟨fun h => absurd h e0, fun h => absurd el h⟩)
            clear h2 h3 h4 hin
            have hd1 : decide ((k : Int) = (W.length : Int) - 1) = true := decide_eq_true (by omega)
            have hd2 : ((k : Int) == (W.length : Int) - 1) = true := by simp; omega
            go_wp2
            go_ret2
            exact ⟨⟨_, _, rfl, by rw [HF.out]; rfl, fun c hc => by rw [HF.out] at hc; cases hc⟩, HB2.out⟩
          · have HF := Lib.hid (h3 e0 el)
            clear h2 h3 h4 hin
            have hd1 : decide ((k : Int) = (W.length : Int) - 1) = false := decide_eq_false (by omega)
            have hd2 : ((k : Int) == (W.length : Int) - 1) = false := by simp; omega
            have hout : (out.length + 1) * 8 ≤ 140737488355328 := by have := HOL.out; omega
            go_wp2_with (first
              | (at_builtin; refine Kd.N_append (Kd.int .i64) (w0 := w) w.heap.size rfl _ _ 23 3 (.int .i64 0) 8 rfl Tryd.underlying23 info3d rfl (by decide) (by omega) u7 out n [.int .i64 n] (fun k => w.heap.size ≤ k) (fun _ => False) rfl rfl (fun _ _ => rfl) (fun _ hk => hk.elim) (fun q hq => Nat.le_trans HB2.out.size hq) HN2.out HB2.out HB2.out.size hout ?_; intro v8 w8 hN8 hB8 hg8 hat8; have HN8 := Aside0.mk hN8; have HB8 := Aside0.mk hB8; have HG8 := Aside0.mk hg8; have HA8 := Aside0.mk hat8; clear hN8 hB8 hg8 hat8)
              | fail)
            go_roundw
            case rel => exact ⟨k + 1, out ++ [n], by go_num, ⟨hlt⟩, ⟨HF.out⟩, HN8, HB8, ⟨HC2.out.grown HG8.out hne7.out⟩, ⟨own_ne_app HA8.out hne7.out HC2.out.lt⟩⟩
            case measure => simp [intOf]; omega
    · have ek : k = W.length := by omega
      subst ek
      have hfin : lineP v W = some out := by
        obtain ⟨_, ⟨h, _⟩ | ⟨_, h⟩⟩ := hat.out
        · omega
        · exact h
      have HFIN := Lib.hid hfin
      clear hfin
      go_wp2
      go_ret2
      exact ⟨⟨_, _, rfl, by rw [HFIN.out]; rfl, fun c hc => by rw [HFIN.out] at hc; cases hc; exact hN.out⟩, hb.out⟩
end Go.Proofs.YtnknoaolbjofiaaDoor.Cl
