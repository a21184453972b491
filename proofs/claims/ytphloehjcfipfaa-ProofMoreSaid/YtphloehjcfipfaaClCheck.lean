/- proof.Check: the walk. -/
import Derived.Test.YtphloehjcfipfaaClCheckP
import Derived.Test.YtphloehjcfipfaaClConcat
import Derived.Deep.LoopGhost
import Derived.LoopN
set_option linter.unusedVariables false
set_option linter.unusedSimpArgs false
namespace Go.Proofs.Ytphloehjcfipfaa.Cl
open Go.RowKit Go.Proofs.YtphloehjcfipfaaW.PrintWords Go.Proofs.YtphloehjcfipfaaW.PrintLast Go.Proofs.YtphloehjcfipfaaW.PrintMore

/-- The call of 'joined'. -/
theorem joined_calls (A : Option Addr) (cap : Nat) (ss : List (List (List Int))) (w : World) (hC : Kd.C KRR w A ss.length ss) (hcap : ss.length ≤ cap) (hl : (cat ss).length * 24 ≤ 140737488355328) :
    Calls Try.prog 34 #[.slice A ss.length cap] w fun e w' => ∃ v, e = .returned v ∧ Kd.N KR 35 w' w.heap.size (fun _ => True) v (cat ss) ∧ Below w.heap.size w w' := by
  have HCON := Lib.hid (concat_calls A cap ss w hC hcap hl)
  clear hC
  go_enter Try.func34, Try.ntmps34
  go_wp2_with (go_at_call 54; refine (HCON.out).mono ?_; rintro e w1 ⟨v1, rfl, hN, hB⟩; have HN := Aside0.mk hN; have HB := Aside0.mk hB; clear hN hB)
  go_ret
  exact ⟨v1, rfl, HN.out, HB.out⟩

theorem empty_any (A : Option Addr) (n cap : Nat) (w : World) : Calls Try.prog 36 #[.slice A n cap] w fun e w' => e = .returned (.bool (n == 0)) ∧ w' = w := by
  go_enter Try.func36, Try.ntmps36
  go_wp2
  go_ret
  refine ⟨?_, rfl⟩
  cases n <;> rfl

/-- Where the first empty clause stands. -/
def firstE : List (List Int) → Int
  | [] => -1
  | c :: r => if c.isEmpty then 0 else if firstE r < 0 then -1 else firstE r + 1
theorem firstE_range : ∀ l, -1 ≤ firstE l ∧ firstE l < l.length ∨ (l = [] ∧ firstE l = -1)
  | [] => .inr ⟨rfl, rfl⟩
  | c :: r => by
    refine .inl ?_
    unfold firstE
    have := firstE_range r
    simp only [List.length_cons]
    split
    · omega
    · split
      · omega
      · rcases this with h | ⟨_, h⟩ <;> omega
theorem firstE_any : ∀ l, (decide (0 ≤ firstE l)) = l.any List.isEmpty
  | [] => by simp [firstE]
  | c :: r => by
    have := firstE_any r
    unfold firstE
    rw [List.any_cons]
    cases h : c.isEmpty with
    | true => simp
    | false =>
      rw [if_neg (by simp), Bool.false_or, ← this]
      split
      · rename_i h1
        simp; omega
      · rename_i h1
        simp; omega
/-- No empty clause ahead of i: it is counted from there. -/
theorem firstE_step {l : List (List Int)} : ∀ {i : Nat}, i ≤ l.length → (∀ j, (h : j < i) → ∀ h2 : j < l.length, l[j].isEmpty = false) → firstE l = if firstE (l.drop i) < 0 then -1 else firstE (l.drop i) + i
  | 0, _, _ => by
    have := firstE_range l
    simp only [List.drop_zero]
    split
    · rcases this with h | ⟨_, h⟩ <;> omega
    · simp
  | i + 1, hi, h => by
    cases l with
    | nil => simp at hi
    | cons c r =>
      have hc := h 0 (by omega) (by simp)
      simp at hc
      have ih := firstE_step (l := r) (i := i) (by simpa using hi) (fun j hj h2 => by have := h (j + 1) (by omega) (by simp; omega); simpa using this)
      rw [List.drop_succ_cons]
      have e : firstE (c :: r) = if firstE r < 0 then -1 else firstE r + 1 := by
        show (if c.isEmpty then 0 else if firstE r < 0 then -1 else firstE r + 1) = _
        rw [if_neg (by simpa using hc)]
      rw [e, ih]
      generalize firstE (r.drop i) = z
      by_cases hz : z < 0
      · rw [if_pos hz, if_pos (by omega), if_pos hz]
      · rw [if_neg hz, if_neg (by omega), if_neg hz]; omega

set_option maxHeartbeats 1000000 in
theorem index_calls (A : Option Addr) (cap : Nat) (l : List (List Int)) (w : World) (hC : KR.C w A l.length l) (hcap : l.length ≤ cap) :
    Calls Try.prog 39 #[.slice A l.length cap, .func (.func 36) #[] #[]] w fun e w' => e = .returned (.int .i64 (firstE l)) ∧ w' = w := by
  have HC := Aside0.mk hC
  have hlen : l.length ≤ 9223372036854775807 := by have h1 := hC.1; have h2 := hC.2.1; omega
  clear hC
  go_enter Try.func39, Try.ntmps39
  go_wp2
  go_loop [8] (fun v8 => ∃ i : Nat, v8 = .int .i64 i ∧ Aside0 (i ≤ l.length) ∧ Aside0 (∀ j, (h : j < i) → ∀ h2 : j < l.length, l[j].isEmpty = false)) (fun i => l.length - (intOf i).toNat)
  case atStart => exact ⟨0, rfl, ⟨Nat.zero_le _⟩, ⟨fun j h => by omega⟩⟩
  case round =>
    obtain ⟨i, rfl, hi, hno⟩ := hrel
    have hi := hi.out
    have hst := Lib.hid (firstE_step hi hno.out)
    by_cases hlt : i < l.length
    · obtain ⟨ad, c, e, _, hK, hc0⟩ := Kd.C_get HC.out ([] : List Int) (i : Int) (by omega) (by omega)
      simp only [Int.toNat_natCast, List.getD_eq_getElem?_getD, List.getElem?_eq_getElem hlt, Option.getD_some] at hK hc0
      obtain ⟨A0, c0, rfl, l0, g0⟩ := hK
      cases e
      have hcell : w.cell? (ad.add i) = some (.slice A0 l[i].length c0) := by
        have hq := hc0 0 _ rfl
        rwa [Nat.add_zero, show (i * KR.sz) = i from Nat.mul_one i] at hq
      have hd : l.drop i = l[i] :: l.drop (i + 1) := List.drop_eq_getElem_cons hlt
      have hem : ∀ W, Calls Try.prog 36 #[.slice A0 l[i].length c0] W fun e w' => e = .returned (.bool l[i].isEmpty) ∧ w' = W := fun W =>
        (empty_any A0 l[i].length c0 W).mono fun e w' ⟨he, hw⟩ => ⟨by rw [he]; cases l[i] <;> rfl, hw⟩
      clear hc0 g0
      cases hb : l[i].isEmpty with
      | true =>
        rw [hb] at hem
        have HE := Lib.hid hem
        have hfin : firstE l = (i : Int) := by
          rw [hst.out, hd]
          simp [firstE, hb]
        have HF := Lib.hid hfin
        clear hem hb hd hfin
        go_wp2_with (go_at_call 36; refine (HE.out _).mono ?_; rintro e w' ⟨rfl, rfl⟩)
        go_ret
        exact ⟨by rw [HF.out]; rfl, rfl⟩
      | false =>
        rw [hb] at hem
        have HE := Lib.hid hem
        have HNO : Aside0 (∀ j, (h : j < i + 1) → ∀ h2 : j < l.length, l[j].isEmpty = false) := ⟨fun j h h2 => by
          rcases Nat.lt_or_ge j i with h3 | h3
          · exact hno.out j h3 h2
          · obtain rfl : j = i := by omega
            exact hb⟩
        clear hem hb hd
        go_wp2_with (go_at_call 36; refine (HE.out _).mono ?_; rintro e w' ⟨rfl, rfl⟩)
        go_round
        case rel => exact ⟨i + 1, by go_num, ⟨hlt⟩, HNO⟩
        case measure => simp [intOf]; omega
    · have ei : i = l.length := by omega
      subst ei
      have hfin : firstE l = -1 := by
        rw [hst.out, List.drop_length]
        simp [firstE]
      have HF := Lib.hid hfin
      clear hfin
      go_wp2
      go_ret
      exact ⟨by rw [HF.out]; rfl, rfl⟩

set_option maxHeartbeats 1000000 in
theorem contains_calls (A : Option Addr) (cap : Nat) (l : List (List Int)) (w : World) (hC : KR.C w A l.length l) (hcap : l.length ≤ cap) :
    Calls Try.prog 35 #[.slice A l.length cap, .func (.func 36) #[] #[]] w fun e w' => e = .returned (.bool (l.any List.isEmpty)) ∧ w' = w := by
  have HCON := Lib.hid (index_calls A cap l w hC hcap)
  have HF := Lib.hid (firstE_any l)
  generalize firstE l = r at HCON HF
  clear hC
  go_enter Try.func35, Try.ntmps35
  go_wp2_with (go_at_call 39; refine (HCON.out).mono ?_; rintro e w' ⟨rfl, rfl⟩)
  go_ret
  exact ⟨by rw [← HF.out]; rfl, rfl⟩

/-- The list of the clauses, and so much of the proof, as 'joined' is handed them. -/
theorem two_rows {w w1 : World} {A B : Option Addr} {l p : List (List Int)} {c1 c2 b : Nat} (h1 : KR.C w A l.length l) (hc1 : l.length ≤ c1) (h2 : KR.C w B p.length p) (hc2 : p.length ≤ c2) (hb : Below w.heap.size w w1)
    (hx : w1.cell? ⟨b, 0, none⟩ = some (.slice A l.length c1)) (hy : w1.cell? ⟨b, 1, none⟩ = some (.slice B p.length c2)) : Kd.C KRR w1 (some ⟨b, 0, none⟩) 2 [l, p] := by
  refine ⟨rfl, by omega, fun _ => ⟨_, rfl, fun j q hj => ?_⟩⟩
  have h0 : (j = 0 ∧ q = l) ∨ (j = 1 ∧ q = p) := by
    rcases j with _ | _ | j
    · exact .inl ⟨rfl, by simpa using hj.symm⟩
    · exact .inr ⟨rfl, by simpa using hj.symm⟩
    · simp at hj
  rcases h0 with ⟨rfl, rfl⟩ | ⟨rfl, rfl⟩
  · refine ⟨[.slice A q.length c1], rfl, ⟨A, c1, rfl, hc1, Kd.C_below h1 hb⟩, fun i u hi => ?_⟩
    cases i with
    | zero =>
      obtain rfl : u = .slice A q.length c1 := by simpa using hi.symm
      rw [show 0 * KRR.sz + 0 = 0 from rfl, add_plain]
      exact hx
    | succ i => simp at hi
  · refine ⟨[.slice B q.length c2], rfl, ⟨B, c2, rfl, hc2, Kd.C_below h2 hb⟩, fun i u hi => ?_⟩
    cases i with
    | zero =>
      obtain rfl : u = .slice B q.length c2 := by simpa using hi.symm
      rw [show 1 * KRR.sz + 0 = 1 from rfl, add_plain]
      exact hy
    | succ i => simp at hi

theorem total_append (l p : List (List Int)) : total (l ++ p) = total l + total p := by
  rw [← length_flat, ← length_flat l, ← length_flat p]
  have : flat (l ++ p) = flat l ++ flat p := by
    induction l with
    | nil => simp [flat]
    | cons c l ih => simp only [flat, List.cons_append, List.foldr_cons] at *; rw [ih, List.append_assoc]
  rw [this, List.length_append]
theorem total_take_le (p : List (List Int)) (k : Nat) : total (p.take k) ≤ total p := by
  have h := total_append (p.take k) (p.drop k)
  rw [List.take_append_drop] at h
  omega
theorem getElem_total {p : List (List Int)} {k : Nat} (h : k < p.length) : p[k].length + total (p.take k) ≤ total p := by
  have h1 := total_append (p.take k) (p.drop k)
  rw [List.take_append_drop, List.drop_eq_getElem_cons h] at h1
  simp only [total, List.map_cons, List.foldr_cons] at *
  omega

theorem two_cells (x : World) (a b : Value) (t : TypeId) : (x.alloc (.cells #[a, b] t)).cell? ⟨x.heap.size, 0, none⟩ = some a ∧ (x.alloc (.cells #[a, b] t)).cell? ⟨x.heap.size, 1, none⟩ = some b := by
  have h : (x.alloc (.cells #[a, b] t)).heap[x.heap.size]? = some (.cells #[a, b] t (0, 0)) := by
    show (x.heap.push _)[x.heap.size]? = _
    simp
  constructor
  · unfold World.cell?
    rw [h]
    rfl
  · unfold World.cell?
    rw [h]
    rfl

/-- Not beyond all measure. -/
def Fit2 (l p : List (List Int)) : Prop := total l + total p < 2199023255552 ∧ l.length + p.length < 2199023255552

def CheckPost (l p : List (List Int)) (w : World) (e : Ending) (w' : World) : Prop := e = .returned (.tuple #[.int .i64 (check l p).1, .int .i64 (check l p).2]) ∧ Below w.heap.size w w'

theorem checkGo_drop {l p : List (List Int)} {k : Nat} (h : k < p.length) : checkGo l p (p.drop k) = if cRight p[k] then (if followsB (l ++ p.take k) p[k] then checkGo l p (p.drop (k + 1)) else (14, (k : Int))) else (3, (k : Int)) := by
  rw [List.drop_eq_getElem_cons h]
  have e : p.length - ((p.drop (k + 1)).length + 1) = k := by rw [List.length_drop]; omega
  simp only [checkGo, e]

set_option maxRecDepth 100000 in
set_option maxHeartbeats 4000000 in
theorem check_wrong (A : Option Addr) (cap : Nat) (l : List (List Int)) (B : Option Addr) (bcap : Nat) (p : List (List Int)) (w : World) (hC : KR.C w A l.length l) (hcap : l.length ≤ cap) (hP : KR.C w B p.length p) (hbcap : p.length ≤ bcap) (h : lRight l = false) :
    Calls Try.prog 14 #[.slice A l.length cap, .slice B p.length bcap] w (CheckPost l p w) := by
  have hcon := right_calls A cap l w hC hcap
  rw [h] at hcon
  have HCON := Lib.hid hcon
  have hf : check l p = (3, 0) := by unfold check; rw [h]; rfl
  have HF := Lib.hid hf
  clear hC hP h hcon hf
  go_enter Try.func14, Try.ntmps14
  go_wp2_with (go_at_call 16; refine (HCON.out).mono ?_; rintro e w' ⟨rfl, nd, rfl⟩)
  go_ret2
  exact ⟨by rw [HF.out]; rfl, pw_below_drewN (Below.refl _ _) _⟩

set_option maxRecDepth 100000 in
set_option maxHeartbeats 4000000 in
theorem check_right (A : Option Addr) (cap : Nat) (l : List (List Int)) (B : Option Addr) (bcap : Nat) (p : List (List Int)) (w : World) (hC : KR.C w A l.length l) (hcap : l.length ≤ cap) (hP : KR.C w B p.length p) (hbcap : p.length ≤ bcap) (h : lRight l = true) (hfit : Fit2 l p) :
    Calls Try.prog 14 #[.slice A l.length cap, .slice B p.length bcap] w (CheckPost l p w) := by
  have HC := Aside0.mk hC
  have HP := Aside0.mk hP
  have hcon := right_calls A cap l w hC hcap
  rw [h] at hcon
  have HCON := Lib.hid hcon
  have hf : check l p = checkGo l p p := by unfold check; rw [h]; rfl
  have HF := Lib.hid hf
  have hcontains := fun W (hb : Below w.heap.size w W) => contains_calls B bcap p W (Kd.C_below HP.out hb) hbcap
  have HCT := Lib.hid hcontains
  obtain ⟨i0, hi0, _, hsz0, _⟩ := info_parts info35
  obtain ⟨hf1, hf2⟩ := hfit
  clear hC hP h hcon hf hcontains
  go_enter Try.func14, Try.ntmps14
  go_wp2_with (go_at_call 16; refine (HCON.out).mono ?_; rintro e w' ⟨rfl, nd, rfl⟩)
  go_loopw [17] (fun v17 wr => ∃ k : Nat, v17 = .int .i64 k ∧ Aside0 (k ≤ p.length) ∧ Aside0 (checkGo l p (p.drop k) = checkGo l p p) ∧ Aside0 (Below w.heap.size w wr)) (fun i _ => p.length - (intOf i).toNat)
  case atStart => exact ⟨0, rfl, ⟨Nat.zero_le _⟩, ⟨rfl⟩, ⟨pw_below_drewN (Below.refl _ _) _⟩⟩
  case round =>
    obtain ⟨k, rfl, hk, hgo, hb⟩ := hrel
    have hk := hk.out
    by_cases hlt : k < p.length
    · obtain ⟨ad, c, e, _, hK, hc0⟩ := Kd.C_get (Kd.C_below HP.out hb.out) ([] : List Int) (k : Int) (by omega) (by omega)
      simp only [Int.toNat_natCast, List.getD_eq_getElem?_getD, List.getElem?_eq_getElem hlt, Option.getD_some] at hK hc0
      obtain ⟨A0, c0, rfl, l0, g0⟩ := hK
      cases e
      have hcell : wr.cell? (ad.add k) = some (.slice A0 p[k].length c0) := by
        have hq := hc0 0 _ rfl
        rwa [Nat.add_zero, show (k * KR.sz) = k from Nat.mul_one k] at hq
      have HROW := Aside0.mk g0
      have hcutm := cut_mid (P := Try.prog) 22 35 .i64 .i64 Try.underlying22 hi0 1 hsz0 (some ad) p.length bcap (k : Int) ((k : Int) + 1) (by omega) (by omega) (by omega) hbcap
      have hcutt := cut_to (P := Try.prog) 22 35 .i64 Try.underlying22 hi0 (some ad) p.length bcap (k : Int) (by omega) (by omega) hbcap
      have hCm := fun W (hW : Below w.heap.size w W) => Kd.C_mid (lo := k) (hi := k + 1) (c := bcap) (Kd.C_below HP.out hW) (by omega) (by omega) hbcap
      have e1 : (p.take (k + 1)).drop k = [p[k]] := by
        rw [List.take_succ_eq_append_getElem hlt, List.drop_append_of_le_length (by rw [List.length_take]; omega), List.drop_of_length_le (by rw [List.length_take]; omega)]
        rfl
      rw [e1] at hCm
      simp only [Int.toNat_natCast, show ((k : Int) + 1).toNat = k + 1 by omega, show k + 1 - k = 1 by omega, Nat.mul_one] at hcutm
      simp only [Int.toNat_natCast] at hcutt
      rw [show KR.sz = 1 from rfl, Nat.mul_one] at hCm
      generalize (if bcap = k then some ad else (some ad).map (·.add k)) = Am at hcutm hCm
      generalize hcm : bcap - k = cm at hcutm
      have hcm1 : 1 ≤ cm := by omega
      have hrt := fun W (hW : Below w.heap.size w W) => right_calls Am cm [p[k]] W (hCm W hW) hcm1
      rw [show lRight [p[k]] = cRight p[k] by simp [lRight]] at hrt
      have hgd := checkGo_drop (l := l) hlt
      have hgt := getElem_total hlt
      have hCt := fun W (hW : Below w.heap.size w W) => Kd.C_take (m := k) (Kd.C_below HP.out hW) (by omega)
      have htk : (p.take k).length = k := by rw [List.length_take]; omega
      have HTK := Lib.hid htk
      have HCMM := Lib.hid hcm
      clear hcm hc0 e1 htk
      cases hc : cRight p[k] with
      | false =>
        rw [hc] at hrt hgd
        have HR := Lib.hid hrt
        have hend := Lib.hid (hgo.out.symm.trans hgd)
        clear hrt hgd hCm hCt hc
        go_wp2_with (go_at_call 16; refine (HR.out _ hb.out).mono ?_; rintro e w' ⟨rfl, nd, rfl⟩)
        go_ret2
        exact ⟨by rw [HF.out, hend.out]; rfl, pw_below_drewN hb.out _⟩
      | true =>
        rw [hc] at hrt hgd
        have HR := Lib.hid hrt
        have HCC := Aside0.mk hc
        have HCt := Lib.hid hCt
        have HGD := Lib.hid hgd
        have HRO := Lib.hid g0
        clear hrt hCm hCt hc hgd g0
        have hj := fun nd => joined_calls (some ⟨wr.heap.size, 0, none⟩) 2 [l, p.take k] ((wr.drewN nd).alloc (.cells #[.slice A l.length cap, .slice (some ad) k bcap] 22))
          (two_rows (w := w) (c1 := cap) (c2 := bcap) HC.out hcap (HCt.out w (Below.refl _ _)) (by rw [HTK.out]; omega) (below_alloc (pw_below_drewN hb.out nd) _) (two_cells _ _ _ _).1 (by rw [HTK.out]; exact (two_cells _ _ _ _).2)) (by simp)
            (by simp only [cat, List.foldr_cons, List.foldr_nil, List.append_nil, List.length_append, HTK.out]; omega)
        have hcat : cat [l, p.take k] = l ++ p.take k := by simp [cat]
        rw [hcat] at hj
        have hj2 := fun nd => (hj nd).mono (R' := fun e w' => ∃ (Av : Option Addr) (cv : Nat), e = .returned (.slice Av (l.length + k) cv) ∧ ((l ++ p.take k).length ≤ cv ∧ KR.C w' Av (l ++ p.take k).length (l ++ p.take k) ∧ Below wr.heap.size wr w')) fun e w' ⟨v, he, hN, hB⟩ => by
          obtain ⟨Av, cv, hv, hle, hCv⟩ := Kd.N_reads hN
          subst hv
          rw [List.length_append, HTK.out] at he
          exact ⟨Av, cv, he, hle, hCv, below_then (below_alloc (pw_below_drewN (Below.refl _ _) nd) _) (by simp) hB⟩
        rw [show (l ++ p.take k).length = l.length + k by rw [List.length_append, HTK.out]] at hj2
        have HJ := Lib.hid hj2
        have hfw := fun W Av cv (hle : (l ++ p.take k).length ≤ cv) (hCv : KR.C W Av (l ++ p.take k).length (l ++ p.take k)) (hW : Below wr.heap.size wr W) =>
          follows_calls Av cv (l ++ p.take k) A0 c0 p[k] W hCv hle (Kd.C_below HRO.out hW) l0 HCC.out (by rw [total_append]; omega) (by rw [List.length_append, HTK.out]; omega)
        rw [show (l ++ p.take k).length = l.length + k by rw [List.length_append, HTK.out]] at hfw
        have HFW := Lib.hid hfw
        clear hj hj2 hcat hfw
        cases hfb : followsB (l ++ p.take k) p[k] with
        | false =>
          have hend := hgo.out.symm.trans HGD.out
          rw [hfb] at hend
          have HEND := Lib.hid hend
          have HFB := Lib.hid hfb
          clear hend
          clear hfb
          go_wp2_with fail
          refine (HR.out _ hb.out).mono ?_
          rintro e w' ⟨rfl, nd, rfl⟩
          go_wp2_with fail
          refine (HJ.out nd).mono ?_
          rintro e w5 ⟨Av, cv, rfl, hq⟩
          have HQ := Aside0.mk hq
          clear hq
          have HB5 := Aside0.mk (below_then hb.out hb.out.size HQ.out.2.2)
          go_wp2_with fail
          refine (HFW.out w5 Av cv HQ.out.1 HQ.out.2.1 HQ.out.2.2).mono ?_
          rw [HFB.out]
          rintro e w6 ⟨rfl, hB6⟩
          have HB6 := Aside0.mk (below_then HB5.out HB5.out.size hB6)
          clear hB6
          go_wp2
          go_ret2
          exact ⟨by rw [HF.out, HEND.out]; rfl, HB6.out⟩
        | true =>
          have hend := HGD.out
          rw [hfb] at hend
          have HEND := Aside0.mk (show checkGo l p (p.drop (k + 1)) = checkGo l p p from hend.symm.trans hgo.out)
          have HFB := Lib.hid hfb
          clear hend
          clear hfb
          go_wp2_with fail
          refine (HR.out _ hb.out).mono ?_
          rintro e w' ⟨rfl, nd, rfl⟩
          go_wp2_with fail
          refine (HJ.out nd).mono ?_
          rintro e w5 ⟨Av, cv, rfl, hq⟩
          have HQ := Aside0.mk hq
          clear hq
          have HB5 := Aside0.mk (below_then hb.out hb.out.size HQ.out.2.2)
          go_wp2_with fail
          refine (HFW.out w5 Av cv HQ.out.1 HQ.out.2.1 HQ.out.2.2).mono ?_
          rw [HFB.out]
          rintro e w6 ⟨rfl, hB6⟩
          have HB6 := Aside0.mk (below_then HB5.out HB5.out.size hB6)
          clear hB6
          go_wp2
          go_roundw
          case rel => exact ⟨k + 1, by go_num, ⟨hlt⟩, HEND, HB6⟩
          case measure => simp [intOf]; omega
    · have ek : k = p.length := by omega
      subst ek
      have hend := hgo.out
      rw [List.drop_length] at hend
      simp only [checkGo] at hend
      have hct := HCT.out wr hb.out
      cases hany : p.any List.isEmpty with
      | true =>
        rw [hany] at hct hend
        have HC1 := Lib.hid hct
        have HE := Lib.hid hend
        clear hct hend hany
        go_wp2_with (go_at_call 35; refine (HC1.out).mono ?_; rintro e w' ⟨rfl, rfl⟩)
        go_ret2
        exact ⟨by rw [HF.out, ← HE.out]; rfl, hb.out⟩
      | false =>
        rw [hany] at hct hend
        have HC1 := Lib.hid hct
        have HE := Lib.hid hend
        clear hct hend hany
        go_wp2_with (go_at_call 35; refine (HC1.out).mono ?_; rintro e w' ⟨rfl, rfl⟩)
        go_ret2
        exact ⟨by rw [HF.out, ← HE.out]; rfl, hb.out⟩

theorem check_calls (A : Option Addr) (cap : Nat) (l : List (List Int)) (B : Option Addr) (bcap : Nat) (p : List (List Int)) (w : World) (hC : KR.C w A l.length l) (hcap : l.length ≤ cap) (hP : KR.C w B p.length p) (hbcap : p.length ≤ bcap) (hfit : Fit2 l p) :
    Calls Try.prog 14 #[.slice A l.length cap, .slice B p.length bcap] w (CheckPost l p w) := by
  cases h : lRight l with
  | false => exact check_wrong A cap l B bcap p w hC hcap hP hbcap h
  | true => exact check_right A cap l B bcap p w hC hcap hP hbcap h hfit
end Go.Proofs.Ytphloehjcfipfaa.Cl
