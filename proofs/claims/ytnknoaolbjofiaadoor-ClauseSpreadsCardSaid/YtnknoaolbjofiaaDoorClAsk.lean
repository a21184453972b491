/- spreader.ask: the walk: what a clause asks for, in a spreader's block. -/
import Derived.Test.YtnknoaolbjofiaaDoorClHold
import Derived.Test.YtnknoaolbjofiaaDoorClAskP
import Derived.Test.YtnknoaolbjofiaaDoorWWords
import Derived.Outline
set_option linter.unusedVariables false
set_option linter.unusedSimpArgs false
namespace Go.Proofs.YtnknoaolbjofiaaDoor.Cl
open Go.RowKit Go.Maps Go.Proofs.YtnknoaolbjofiaaDoorW.PrintWords

def Lits (c : List Int) : Prop := ∀ x ∈ c, -1048576 ≤ x ∧ x ≤ 1048576 ∧ x ≠ 0
theorem lits_of {c : List Int} (h : cRight c = true) : Lits c := fun x hx => by
  have := List.all_eq_true.1 h x hx
  simp [litOk] at this
  omega

/-- What a call of 'ask' comes to. -/
def AskPost (S W c : List Int) (bs bw : Nat) (w : World) (e : Ending) (w' : World) : Prop :=
  (askLoop S 0 c = none ∧ e = .returned (.bool true) ∧ w' = w) ∨ (askLoop S 0 c = some 0 ∧ e = .returned (.bool false) ∧ w' = w) ∨
  ∃ z, z ≠ 0 ∧ askLoop S 0 c = some z ∧ e = .returned (.bool true) ∧ IsSet Tryd.prog 3 w' bs (z :: S) ∧ IsSet Tryd.prog 3 w' bw (z :: W) ∧ Fr w w' (fun i => i = bs ∨ i = bw)

/-- On the way: so much of the clause has been gone through. -/
def AskRel (S c : List Int) (k : Nat) (last : Int) : Prop := k ≤ c.length ∧ (last = 0 ∨ (last ∈ c ∧ last ∉ S ∧ -last ∉ S)) ∧ askLoop S last (c.drop k) = askLoop S 0 c
theorem AskRel.start (S c : List Int) : AskRel S c 0 0 := ⟨Nat.zero_le _, .inl rfl, rfl⟩
theorem ask_drop {c : List Int} {k : Nat} (h : k < c.length) : c.drop k = rd c k :: c.drop (k + 1) := by
  rw [List.drop_eq_getElem_cons h]
  simp [rd, List.getD_eq_getElem?_getD, List.getElem?_eq_getElem h]
theorem rd_mem {c : List Int} {k : Nat} (h : k < c.length) : rd c k ∈ c := by
  simp [rd, List.getD_eq_getElem?_getD, List.getElem?_eq_getElem h]
theorem AskRel.skip {S c : List Int} {k : Nat} {last : Int} (h : AskRel S c k last) (hk : k < c.length) (hx : (S.contains (-(rd c k)) || rd c k == last) = true) : AskRel S c (k + 1) last := by
  refine ⟨hk, h.2.1, ?_⟩
  rw [← h.2.2, ask_drop hk]
  simp only [askLoop]
  rw [if_pos hx]
theorem AskRel.take_ {S c : List Int} {k : Nat} {last : Int} (h : AskRel S c k last) (hk : k < c.length) (h1 : S.contains (-(rd c k)) = false) (h2 : (rd c k == last) = false) (h3 : S.contains (rd c k) = false) (h4 : last = 0) : AskRel S c (k + 1) (rd c k) := by
  refine ⟨hk, .inr ⟨rd_mem hk, by simpa using h3, by simpa using h1⟩, ?_⟩
  rw [← h.2.2, ask_drop hk]
  subst h4
  simp only [askLoop]
  rw [if_neg (by simp only [h1, h2]; decide), if_neg (by simp only [h3]; decide)]
theorem AskRel.stop {S c : List Int} {k : Nat} {last : Int} (h : AskRel S c k last) (hk : k < c.length) (h1 : S.contains (-(rd c k)) = false) (h2 : (rd c k == last) = false) (h3 : (S.contains (rd c k) || last != 0) = true) : askLoop S 0 c = none := by
  rw [← h.2.2, ask_drop hk]
  simp only [askLoop]
  rw [if_neg (by simp only [h1, h2]; decide), if_pos h3]
theorem AskRel.done {S c : List Int} {last : Int} (h : AskRel S c c.length last) : askLoop S 0 c = some last := by
  rw [← h.2.2, List.drop_length]
  rfl

set_option maxHeartbeats 2000000 in
theorem ask_calls {w : World} {g bi bs bw : Nat} {lv : Value} {S W : List Int} {A : Option Addr} {c : List Int} {cap : Nat} (hg : SpBlk w g lv bi bs bw) (hS : IsSet Tryd.prog 3 w bs S) (hW : IsSet Tryd.prog 3 w bw W) (hne : bs ≠ bw)
    (hlS : S.length < 9223372036854775807) (hlW : W.length < 9223372036854775807) (hWS : ∀ x ∈ W, x ∈ S) (hc : Lits c) (hC : Kd.C (Kd.int .i64) w A c.length c) (hcap : c.length ≤ cap) (hlen : c.length ≤ 9223372036854775807) :
    Calls Tryd.prog 32 #[.pointer (some ⟨g, 0, none⟩), .slice A c.length cap] w (AskPost S W c bs bw w) := by
  have HC := Lib.hid hc
  have HR := Aside0.mk hC
  clear hc hC
  have hc2 := hg.c2
  go_enter Tryd.func32, Tryd.ntmps32
  go_wp2
  go_loop [5, 14] (fun v5 v14 => ∃ (k : Nat) (last : Int), v5 = .int .i64 last ∧ v14 = .int .i64 k ∧ AskRel S c k last) (fun _ i => c.length - (intOf i).toNat)
  case atStart => exact ⟨0, 0, rfl, rfl, AskRel.start S c⟩
  case round =>
    obtain ⟨k, last, rfl, rfl, hr⟩ := hrel
    have hkl := hr.1
    by_cases hlt : k < c.length
    · have hx := HC.out _ (rd_mem hlt)
      obtain ⟨ad, e, hcell⟩ := Kd.at_int HR.out (k : Int) (by omega) (by omega)
      cases e
      rw [Int.toNat_natCast] at hcell
      have hmem : ∀ b, S.contains (-(rd c k)) = b → ∃ q : Int, (Instr.lookup 56 (.map (some bs)) (.int .i64 (-(rd c k))) true).run Tryd.prog w = .ok (.tuple #[.int .i64 q, .bool b]) w := fun b hb => by
        obtain ⟨q, hq⟩ := hS.look im (x := -(rd c k)) (wf_lit (by omega) (by omega))
        exact ⟨q, by rw [hq, hb]⟩
      have hmem2 : ∀ b, S.contains (rd c k) = b → ∃ q : Int, (Instr.lookup 56 (.map (some bs)) (.int .i64 (rd c k)) true).run Tryd.prog w = .ok (.tuple #[.int .i64 q, .bool b]) w := fun b hb => by
        obtain ⟨q, hq⟩ := hS.look im (x := rd c k) (wf_lit (by omega) (by omega))
        exact ⟨q, by rw [hq, hb]⟩
      cases h1 : S.contains (-(rd c k)) with
      | true =>
        obtain ⟨q1, hl1⟩ := hmem _ h1
        have hr' := hr.skip hlt (by rw [h1]; rfl)
        have HR' := Lib.hid hr'
        clear hr hr' hmem hmem2 h1
        go_wp2
        go_round
        case rel => exact ⟨k + 1, last, rfl, by go_num, HR'.out⟩
        case measure => simp [intOf]; omega
      | false =>
        obtain ⟨q1, hl1⟩ := hmem _ h1
        cases h2 : rd c k == last with
        | true =>
          have hr' := hr.skip hlt (by rw [h2]; simp)
          have HR' := Lib.hid hr'
          clear hr hr' hmem hmem2 h1
          go_wp2
          go_round
          case rel => exact ⟨k + 1, last, rfl, by go_num, HR'.out⟩
          case measure => simp [intOf]; omega
        | false =>
          cases h3 : S.contains (rd c k) with
          | true =>
            obtain ⟨q2, hl2⟩ := hmem2 _ h3
            have hf := Lib.hid (hr.stop hlt h1 h2 (by rw [h3]; rfl))
            clear hr hmem hmem2 h1 h3
            go_wp2
            go_ret
            exact .inl ⟨hf.out, rfl, rfl⟩
          | false =>
            obtain ⟨q2, hl2⟩ := hmem2 _ h3
            cases h4 : last != 0 with
            | true =>
              have hf := Lib.hid (hr.stop hlt h1 h2 (by rw [h4]; simp))
              clear hr hmem hmem2 h1 h3
              go_wp2
              go_ret
              exact .inl ⟨hf.out, rfl, rfl⟩
            | false =>
              have hr' := hr.take_ hlt h1 h2 h3 (by simpa using h4)
              have HR' := Lib.hid hr'
              clear hr hr' hmem hmem2 h1 h3
              go_wp2
              go_round
              case rel => exact ⟨k + 1, rd c k, rfl, by go_num, HR'.out⟩
              case measure => simp [intOf]; omega
    · have hk : k = c.length := by omega
      subst hk
      have hd := Lib.hid hr.done
      by_cases hz : last = 0
      · subst hz
        clear hr
        go_wp2
        go_ret
        exact .inr (.inl ⟨hd.out, rfl, rfl⟩)
      · have hb : (last != 0) = true := by simpa using hz
        obtain ⟨hm, hns, hno⟩ := hr.2.1.resolve_left hz
        have hx := HC.out _ hm
        have hcon := hold_new hg hS hW hne hlS hlW hx.1 hx.2.1 (by simpa using hno) (by simpa using hns) (by simpa using fun h => hns (hWS _ h))
        have HCON := Lib.hid hcon
        clear hr hcon hm hns hno hz
        go_wp2_with (go_at_call 31; refine (HCON.out).mono ?_; rintro e w' ⟨rfl, hq⟩)
        go_ret
        exact .inr (.inr ⟨last, by simpa using hb, hd.out, rfl, hq⟩)
end Go.Proofs.YtnknoaolbjofiaaDoor.Cl
