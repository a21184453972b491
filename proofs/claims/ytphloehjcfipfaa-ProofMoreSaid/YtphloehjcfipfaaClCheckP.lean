/- proof.Check: the plain law, and what 'follows' tells. -/
import Derived.Test.YtphloehjcfipfaaXx2
import Derived.Test.YtphloehjcfipfaaClRight
import Derived.Test.YtphloehjcfipfaaExtSpread
set_option linter.unusedVariables false
set_option linter.unusedSimpArgs false
namespace Go.Proofs.Ytphloehjcfipfaa.Cl
open Go.RowKit Go.Proofs.YtphloehjcfipfaaW.PrintWords Go.Proofs.YtphloehjcfipfaaW.PrintMore
open Go.Proofs.Ytphloehjcfipfaa.X

def opp (c : List Int) : List Int := c.map (fun x => -x)
def followsB (l : List (List Int)) (c : List Int) : Bool := !(spread l (opp c)).2
def checkGo (l p : List (List Int)) : List (List Int) → Int × Int
  | [] => if p.any List.isEmpty then (0, 0) else (11, (p.length : Int))
  | c :: r => if cRight c then (if followsB (l ++ p.take (p.length - (r.length + 1))) c then checkGo l p r else (14, ((p.length - (r.length + 1) : Nat) : Int))) else (3, ((p.length - (r.length + 1) : Nat) : Int))
def check (l p : List (List Int)) : Int × Int := if lRight l then checkGo l p p else (3, 0)

theorem wrap_neg {x : Int} (h1 : -1048576 ≤ x) (h2 : x ≤ 1048576) : wrap64 (-x) = -x := by unfold wrap64; omega
theorem lit_bounds {c : List Int} (h : cRight c = true) {x : Int} (hx : x ∈ c) : -1048576 ≤ x ∧ x ≤ 1048576 ∧ x ≠ 0 := by
  have := List.all_eq_true.1 h x hx
  simp [litOk] at this
  omega
/-- So far the opposites stand. -/
def half (c : List Int) (i : Nat) : List Int := opp (c.take i) ++ List.replicate (c.length - i) 0
theorem half_length (c : List Int) {i : Nat} (h : i ≤ c.length) : (half c i).length = c.length := by
  simp only [half, opp, List.length_append, List.length_map, List.length_take, List.length_replicate]
  omega
theorem half_zero (c : List Int) : half c 0 = List.replicate c.length 0 := by simp [half, opp]
theorem half_end (c : List Int) : half c c.length = opp c := by simp [half]
theorem half_set {c : List Int} {i : Nat} (h : i < c.length) : (half c i).set i (-c[i]) = half c (i + 1) := by
  have e1 : (opp (c.take i)).length = i := by simp [opp]; omega
  have e2 : c.length - i = (c.length - (i + 1)) + 1 := by omega
  have e3 : opp (c.take (i + 1)) = opp (c.take i) ++ [-c[i]] := by
    rw [List.take_succ_eq_append_getElem h]
    unfold opp
    rw [List.map_append, List.map_cons, List.map_nil]
  simp only [half]
  rw [List.set_append_right _ _ (by omega), e1, Nat.sub_self, e2, List.replicate_succ, List.set_cons_zero, e3, List.append_assoc, List.singleton_append]
theorem follows_ev {l : List (List Int)} {c : List Int} (hc : cRight c = true) (hs : c.length + total l < 4398046511104) (hl : l.length < 4398046511104) : Ev (fun k => proof_follows.f k l c) (followsB l c) := by
  have hopp : (opp c).length = c.length := by simp [opp]
  have hend : (clause_Spread.f l (opp c)).bind (fun bt109 => (some (!bt109.2))) = some (followsB l c) := by
    unfold clause_Spread.f
    rw [if_pos ⟨by omega, hl⟩]
    rfl
  have loop : ∀ d i : Nat, i ≤ c.length → c.length - i = d → Ev (fun k => proof_follows.l0 k l (half c i) c (c.length : Int) (i : Int)) (followsB l c) := by
    intro d
    induction d with
    | zero =>
      intro i hi hd
      have e : i = c.length := by omega
      subst e
      refine Ev.step (f := fun _ => some (followsB l c)) (fun k => ?_) (Ev.now _)
      simp only [proof_follows.l0]
      rw [if_neg (by omega), half_end]
      exact hend
    | succ d ih =>
      intro i hi hd
      have hlt : i < c.length := by omega
      have hx := lit_bounds hc (List.getElem_mem hlt)
      refine Ev.step (f := fun k => proof_follows.l0 k l (half c (i + 1)) c (c.length : Int) ((i + 1 : Nat) : Int)) (fun k => ?_) (ih (i + 1) hlt (by omega))
      simp only [proof_follows.l0]
      rw [if_pos (by omega), if_pos (by omega), if_pos (by omega), if_pos (by rw [half_length c hi]; omega), rd_at hlt, wrap_neg hx.1 hx.2.1, Int.toNat_natCast, half_set hlt, wrap_up (by omega) (by omega)]
      rfl
  refine Ev.congr (f := fun k => proof_follows.l0 k l (half c 0) c (c.length : Int) 0) (fun k => ?_) (loop c.length 0 (Nat.zero_le _) rfl)
  simp only [proof_follows.f]
  rw [if_pos (by omega), Int.toNat_natCast, if_pos (by omega), half_zero]

/-- The call of 'follows'. -/
theorem follows_calls (A : Option Addr) (cap : Nat) (l : List (List Int)) (B : Option Addr) (bcap : Nat) (c : List Int) (w : World) (hC : Kd.C (Kd.slice 3 (Kd.int .i64)) w A l.length l) (hcap : l.length ≤ cap) (hF : Kd.C (Kd.int .i64) w B c.length c) (hbcap : c.length ≤ bcap)
    (hc : cRight c = true) (hs : c.length + total l < 4398046511104) (hl : l.length < 4398046511104) : Calls Try.prog 33 #[.slice A l.length cap, .slice B c.length bcap] w fun e w' => e = .returned (.bool (followsB l c)) ∧ Below w.heap.size w w' := by
  obtain ⟨k, hk⟩ := (follows_ev hc hs hl).rounds
  exact proof_follows.calls k A cap l B bcap c _ w hC hcap hF hbcap hk
end Go.Proofs.Ytphloehjcfipfaa.Cl
