/- Part 3 of 5 of the proof that the statement of the row ProofTrims holds: the texts ClRunP, ClRun, Xx1, ClRight, Shelf, ClSorted, ClSpread, ExtSpread, Xx2, ClCheckP, ClConcat, ClCheck, ExtAwake18, ExtCheck, one behind the other. -/
import Derived.Deep.LoopGhost
import Derived.LoopN
import Derived.Shelf.Small.Bits
import Derived.Shelf.Small.Wraps
import Derived.Shelf.Strconv.Itoa0
import Derived.Ground.Names2Prog
import Derived.Shelf.Slices.Clone
import Derived.Shelf.Slices.CompactI
import Derived.Shelf.Slices.SearchI
import Derived.Shelf.Slices.Cells
import Derived.Ground.SlgnProg
import Derived.Shelf.SlicesE.Clone
import Derived.Ground.SlsfProg
import Derived.Shelf.SlSortCmp.Insertion
import Derived.Shelf.SlSortCmp.SiftDown1
import Derived.Shelf.SlSortCmp.HeapSort1
import Derived.Shelf.SlSortCmp.Insertion1
import Derived.Shelf.SlSortCmp.Median1
import Derived.Shelf.SlSortCmp.Pivot1
import Derived.Shelf.SlSortCmp.ReverseRange1
import Derived.Shelf.SlSortCmp.PartialInsertion1
import Derived.Shelf.SlSortCmp.PartitionEqual1
import Derived.Shelf.SlSortCmp.Partition1
import Derived.Shelf.SlSortCmp.Pdq1
import Derived.Shelf.SlSortCmp.Whole1
import Derived.Shelf.SlSortCmp.NoneTotal
import Derived.Test.YtphloehjcfipfaaProg
import Derived.Test.YtphloehjcfipfaaWMore
import Derived.Deep.QuietTactic
import Derived.BigQuiet
import Derived.Sort.OwnSortedInts
import Derived.Deep.RegionHeld3
import Derived.Deep.AppendLies
import Derived.Laws.Rows
import Derived.Test.YtphloehjcfipfaaWLast
import Derived.Test.YtphloehjcfipfaaWNEv
import Derived.KernelRfl
import Derived.Lib.Hide
import Derived.WalkKit
import Derived.Tactics
import Derived.Test.YtphloehjcfipfaaTrims1
import Derived.Test.YtphloehjcfipfaaTrims2

section
/- spreader.run and Spread: what stands on the way, without the machine. -/
set_option linter.unusedVariables false
set_option linter.unusedSimpArgs false
namespace Go.Proofs.Ytphloehjcfipfaa.Cl

def row (l : List (List Int)) (m : Nat) : List Int := l.getD m []
theorem row_mem {l : List (List Int)} {m : Nat} (h : m < l.length) : row l m ∈ l := by
  simp [row, List.getD_eq_getElem?_getD, List.getElem?_eq_getElem h]
theorem mem_row {l : List (List Int)} {c : List Int} (h : c ∈ l) : ∃ m, m < l.length ∧ row l m = c := by
  obtain ⟨m, hm, e⟩ := List.mem_iff_getElem.1 h
  exact ⟨m, hm, by simp [row, List.getD_eq_getElem?_getD, List.getElem?_eq_getElem hm, e]⟩

/-- In which clauses a literal stands. -/
def inFrom (x : Int) : Nat → List (List Int) → List Int
  | _, [] => []
  | k, c :: l => (c.filter (· == x)).map (fun _ => (k : Int)) ++ inFrom x (k + 1) l
def inOf (l : List (List Int)) (x : Int) : List Int := inFrom x 0 l

theorem mem_inFrom {x z : Int} : ∀ {l : List (List Int)} {k : Nat}, z ∈ inFrom x k l ↔ ∃ m, m < l.length ∧ z = ((k + m : Nat) : Int) ∧ x ∈ row l m
  | [], k => by simp [inFrom]
  | c :: l, k => by
    simp only [inFrom, List.mem_append, mem_inFrom (l := l) (k := k + 1)]
    constructor
    · rintro (h | ⟨m, hm, rfl, hx⟩)
      · simp only [List.mem_map, List.mem_filter] at h
        obtain ⟨y, ⟨hy, hyx⟩, rfl⟩ := h
        refine ⟨0, by simp, by simp, ?_⟩
        obtain rfl : y = x := by simpa using hyx
        simpa [row] using hy
      · exact ⟨m + 1, by simpa using hm, by simp; omega, by simpa [row] using hx⟩
    · rintro ⟨m, hm, rfl, hx⟩
      cases m with
      | zero =>
        refine .inl ?_
        simp only [List.mem_map, List.mem_filter]
        exact ⟨x, ⟨by simpa [row] using hx, by simp⟩, by simp⟩
      | succ m => exact .inr ⟨m, by simpa using hm, by simp; omega, by simpa [row] using hx⟩
theorem mem_inOf {l : List (List Int)} {x z : Int} : z ∈ inOf l x ↔ ∃ m, m < l.length ∧ z = (m : Int) ∧ x ∈ row l m := by
  unfold inOf
  rw [mem_inFrom]
  simp
theorem inFrom_snoc (x : Int) (c : List Int) : ∀ (l : List (List Int)) (k : Nat), inFrom x k (l ++ [c]) = inFrom x k l ++ (c.filter (· == x)).map (fun _ => ((k + l.length : Nat) : Int))
  | [], k => by simp [inFrom]
  | d :: l, k => by
    simp only [List.cons_append, inFrom, inFrom_snoc x c l (k + 1), List.append_assoc, List.length_cons]
    rw [show k + 1 + l.length = k + (l.length + 1) from by omega]
theorem length_inFrom (x : Int) : ∀ (l : List (List Int)) (k : Nat), (inFrom x k l).length ≤ total l
  | [], k => by simp [inFrom, total]
  | c :: l, k => by
    have h1 := length_inFrom x l (k + 1)
    have h2 := List.length_filter_le (· == x) c
    simp only [total, List.map_cons, List.foldr_cons] at *
    simp only [inFrom, List.length_append, List.length_map]
    omega
/-- What the map holds after k clauses and j literals of the next. -/
def inAt (l : List (List Int)) (k j : Nat) (x : Int) : List Int := inFrom x 0 (l.take k) ++ (((row l k).take j).filter (· == x)).map (fun _ => (k : Int))
theorem inAt_zero (l : List (List Int)) (x : Int) : inAt l 0 0 x = [] := by simp [inAt, inFrom]
theorem inAt_next {l : List (List Int)} {k : Nat} (h : k < l.length) (x : Int) : inAt l k (row l k).length x = inAt l (k + 1) 0 x := by
  have ht : l.take (k + 1) = l.take k ++ [row l k] := by
    rw [List.take_succ_eq_append_getElem h]
    simp [row, List.getD_eq_getElem?_getD, List.getElem?_eq_getElem h]
  have hl : (l.take k).length = k := by rw [List.length_take]; omega
  simp only [inAt, ht, inFrom_snoc, hl, List.take_length, List.take_zero, List.filter_nil, List.map_nil, List.append_nil, Nat.zero_add]
theorem inAt_step {l : List (List Int)} {k j : Nat} (h : j < (row l k).length) (x : Int) : inAt l k (j + 1) x = if x = (row l k).getD j 0 then inAt l k j x ++ [(k : Int)] else inAt l k j x := by
  have ht : (row l k).take (j + 1) = (row l k).take j ++ [(row l k).getD j 0] := by
    rw [List.take_succ_eq_append_getElem h]
    simp [List.getD_eq_getElem?_getD, List.getElem?_eq_getElem h]
  simp only [inAt, ht, List.filter_append, List.map_append, List.append_assoc]
  by_cases e : x = (row l k).getD j 0
  · subst e; simp
  · have h1 : ((row l k).getD j 0 == x) = false := beq_eq_false_iff_ne.2 fun h => e h.symm
    rw [if_neg e, List.filter_cons, if_neg (by rw [h1]; decide)]
    simp
theorem inAt_end (l : List (List Int)) (x : Int) : inAt l l.length 0 x = inOf l x := by simp [inAt, inOf]
theorem length_inAt (l : List (List Int)) (k j : Nat) (x : Int) : (inAt l k j x).length ≤ total (l.take k) + (row l k).length := by
  simp only [inAt, List.length_append, List.length_map]
  have h1 := length_inFrom x (l.take k) 0
  have h2 := List.length_filter_le (· == x) ((row l k).take j)
  have h3 : ((row l k).take j).length ≤ (row l k).length := by rw [List.length_take]; omega
  omega
theorem total_take (l : List (List Int)) : ∀ k, k < l.length → total (l.take k) + (row l k).length ≤ total l := by
  induction l with
  | nil => intro k h; simp at h
  | cons c l ih =>
    intro k h
    cases k with
    | zero => simp [total, row]
    | succ k =>
      have := ih k (by simpa using h)
      simp [total, row] at *
      omega

/-- What holds on the way: the literals fr up to j are in, the clauses up to k have been asked, those whose numbers are in K are to be asked anew. -/
structure RInv (l : List (List Int)) (fr S W K : List Int) (j k : Nat) : Prop where
  way : Way l fr S
  sub : ∀ x ∈ W, x ∈ S
  nd : W.Nodup
  lit : ∀ x ∈ S, -1048576 ≤ x ∧ x ≤ 1048576 ∧ x ≠ 0
  src : ∀ x ∈ S, x ∈ fr ∨ ∃ c ∈ l, x ∈ c
  got : ∀ i, i < j → fr.getD i 0 ∈ S
  set : ∀ m, m < k → Settled S (row l m) ∨ (∃ y ∈ row l m, -y ∈ W) ∨ (m : Int) ∈ K

section
variable {l : List (List Int)} {fr S W K : List Int} {j k : Nat}

theorem RInv.start (l : List (List Int)) (fr : List Int) : RInv l fr [] [] [] 0 0 := ⟨Way.nil l fr, by simp, by simp, by simp, by simp, fun i h => by omega, fun m h => by omega⟩
theorem settled_more {z : Int} {c : List Int} (h : Settled S c) : Settled (z :: S) c ∨ ∃ y ∈ c, -y ∈ z :: W := by
  rcases h with ⟨x, hx, hS⟩ | ⟨u, hu, v, hv, hne, h1, h2⟩
  · exact .inl (.inl ⟨x, hx, by simp [hS]⟩)
  · by_cases e : -u = z
    · exact .inr ⟨u, hu, by simp [e]⟩
    · by_cases e' : -v = z
      · exact .inr ⟨v, hv, by simp [e']⟩
      · exact .inl (.inr ⟨u, hu, v, hv, hne, by simp [e, h1], by simp [e', h2]⟩)
/-- A literal more. -/
theorem RInv.more {z : Int} (h : RInv l fr S W K j k) (hd : Der l fr z) (h0 : z ≠ 0) (h1 : z ∉ S) (h2 : -z ∉ S) (hb : -1048576 ≤ z ∧ z ≤ 1048576) (hs : z ∈ fr ∨ ∃ c ∈ l, z ∈ c) : RInv l fr (z :: S) (z :: W) K j k where
  way := h.way.cons hd h0 h1 h2
  sub x hx := by rcases List.mem_cons.1 hx with rfl | hx <;> simp [h.sub, *]
  nd := List.nodup_cons.2 ⟨fun hw => h1 (h.sub z hw), h.nd⟩
  lit x hx := by
    rcases List.mem_cons.1 hx with rfl | hx
    · exact ⟨hb.1, hb.2, h0⟩
    · exact h.lit x hx
  src x hx := by
    rcases List.mem_cons.1 hx with rfl | hx
    · exact hs
    · exact h.src x hx
  got i hi := List.mem_cons_of_mem _ (h.got i hi)
  set m hm := by
    rcases h.set m hm with h' | ⟨y, hy, hW⟩ | hK
    · rcases settled_more (W := W) (z := z) h' with h' | h'
      · exact .inl h'
      · exact .inr (.inl h')
    · exact .inr (.inl ⟨y, hy, by simp [hW]⟩)
    · exact .inr (.inr hK)
theorem RInv.size (h : RInv l fr S W K j k) : S.length ≤ fr.length + total l := by
  have := length_le_of_sub S (fr ++ flat l) h.way.apart fun x hx => by
    rcases h.src x hx with h' | h'
    · simp [h']
    · simp [mem_flat.2 h']
  rwa [List.length_append, length_flat] at this
theorem RInv.ndS (h : RInv l fr S W K j k) : S.Nodup := h.way.apart.imp fun hne e => hne (by rw [e])
theorem length_sub : ∀ (W S : List Int), W.Nodup → (∀ x ∈ W, x ∈ S) → W.length ≤ S.length
  | [], S, _, _ => Nat.zero_le _
  | x :: W, S, hn, hs => by
    have hn' := List.nodup_cons.1 hn
    have hx : x ∈ S := hs x (by simp)
    have ih := length_sub W (S.erase x) hn'.2 fun y hy => (List.mem_erase_of_ne fun e => hn'.1 (by rw [← e]; exact hy)).2 (hs y (by simp [hy]))
    rw [List.length_erase_of_mem hx] at ih
    have : 0 < S.length := List.length_pos_of_mem hx
    simp only [List.length_cons]
    omega
theorem RInv.sizeW (h : RInv l fr S W K j k) : W.length ≤ S.length := length_sub W S h.nd h.sub

/-- 'from' goes on. -/
theorem RInv.held_old (h : RInv l fr S W K j k) (hx : fr.getD j 0 ∈ S) : RInv l fr S W K (j + 1) k := by
  refine { h with got := fun i hi => ?_ }
  rcases Nat.lt_or_ge i j with h' | h'
  · exact h.got i h'
  · obtain rfl : i = j := by omega
    exact hx
/-- A clause has been asked. -/
theorem RInv.asked (h : RInv l fr S W K j k) (hx : Settled S (row l k)) : RInv l fr S W K j (k + 1) := by
  refine { h with set := fun m hm => ?_ }
  rcases Nat.lt_or_ge m k with h' | h'
  · exact h.set m h'
  · obtain rfl : m = k := by omega
    exact .inl hx
theorem RInv.again {m : Nat} (h : RInv l fr S W ((m : Int) :: K) j k) (hx : Settled S (row l m)) : RInv l fr S W K j k := by
  refine { h with set := fun i hi => ?_ }
  rcases h.set i hi with h' | h' | h'
  · exact .inl h'
  · exact .inr (.inl h')
  · rcases List.mem_cons.1 h' with e | h'
    · obtain rfl : i = m := by omega
      exact .inl hx
    · exact .inr (.inr h')
/-- What is waiting is taken. -/
theorem RInv.pop {x : Int} (h : RInv l fr S W [] j l.length) (hx : x ∈ W) : RInv l fr S (W.erase x) (inOf l (-x)) j l.length := by
  refine { h with sub := fun y hy => h.sub y (List.mem_of_mem_erase hy), nd := h.nd.erase x, set := fun m hm => ?_ }
  rcases h.set m hm with h' | ⟨y, hy, hW⟩ | h'
  · exact .inl h'
  · by_cases e : -y = x
    · exact .inr (.inr (mem_inOf.2 ⟨m, hm, rfl, by subst e; simpa using hy⟩))
    · exact .inr (.inl ⟨y, hy, (List.mem_erase_of_ne e).2 hW⟩)
  · simp at h'
/-- Nothing is waiting. -/
theorem RInv.end_ (h : RInv l fr S [] [] fr.length l.length) : ¬ Fails l fr ∧ ∀ x, x ∈ S ↔ Der l fr x := by
  refine done (fun x hx => ?_) h.way.der h.way.apart h.way.zero (fun c hc => ?_)
  · obtain ⟨i, hi, e⟩ := List.mem_iff_getElem.1 hx
    have := h.got i hi
    rw [List.getD_eq_getElem?_getD, List.getElem?_eq_getElem hi] at this
    simpa [e] using this
  · obtain ⟨m, hm, rfl⟩ := mem_row hc
    rcases h.set m hm with h' | ⟨_, _, h'⟩ | h'
    · exact h'
    · simp at h'
    · simp at h'
/-- What a clause asks for follows. -/
theorem RInv.unit {c : List Int} {z : Int} (h : RInv l fr S W K j k) (hc : c ∈ l) (hz : z ∈ c) (hy : ∀ y ∈ c, y ≠ z → -y ∈ S) : Der l fr z :=
  Der.unit hc hz fun y hyc hne => h.way.der _ (hy y hyc hne)
theorem RInv.fails {c : List Int} (h : RInv l fr S W K j k) (hc : c ∈ l) (hy : ∀ y ∈ c, -y ∈ S) : Fails l fr := .inr ⟨c, hc, fun y hyc => h.way.der _ (hy y hyc)⟩
theorem RInv.clash {x : Int} (h : RInv l fr S W K j k) (hx : x ∈ fr) (hn : -x ∈ S) : Fails l fr := .inl ⟨x, Der.of_from hx, h.way.der _ hn⟩
end
end Go.Proofs.Ytphloehjcfipfaa.Cl
end

section
/- spreader.run: the walk: till nothing is waiting. -/
set_option linter.unusedVariables false
set_option linter.unusedSimpArgs false
namespace Go.Proofs.Ytphloehjcfipfaa.Cl
open Go.RowKit Go.Maps Go.Proofs.YtphloehjcfipfaaW.PrintWords

/-! ### What stays -/
theorem Fr.then_ {a b c : World} {S S' : Nat → Prop} (h : Fr a b S) (k : Fr b c S') (hS : ∀ i, S' i → S i ∨ a.heap.size ≤ i) : Fr a c S :=
  ⟨k.os.trans h.os, k.tape.trans h.tape, k.output.trans h.output, Nat.le_trans h.size k.size, fun i hi hn => (k.block i (Nat.lt_of_lt_of_le hi h.size) (fun hs => by rcases hS i hs with h1 | h1; exact hn h1; omega)).trans (h.block i hi hn)⟩
theorem ownsInts_move {w w1 : World} {base : Nat} {e : TypeId} {q : IntKind} {v : Value} {zs : List Int} (h : w.ownsInts base e q v zs) (hm : ∀ k, v.ownBlock = some k → w1.heap[k]? = w.heap[k]?) : w1.ownsInts base e q v zs := ⟨own_move h.1 hm, h.2⟩
/-- The map of rows stays where its own block and the rows' stay. -/
theorem HasRows.move {P : Program} {kt : TypeId} {w w1 : World} {base b n : Nat} {G : Int → List Int} (h : HasRows P kt w base b n G) (hb : w1.heap[b]? = w.heap[b]?) (hr : ∀ i c t f, base ≤ i → w.heap[i]? = some (.cells c t f) → w1.heap[i]? = w.heap[i]?) : HasRows P kt w1 base b n G := by
  obtain ⟨D, ⟨es, clock, hb', F, hs, rfl, hbb, hlen, hap⟩, r⟩ := h
  have hmv : ∀ v zs, w.ownsInts base kt .i64 v zs → w1.ownsInts base kt .i64 v zs := fun v zs ho => ownsInts_move ho fun k hk => by
    obtain ⟨cells, hc⟩ := own_typed ho.1 k hk
    exact hr k _ _ _ (own_base ho.1 k hk) hc
  have hst : ∀ x ∈ es.toList, ∀ z, rowElem (H := Unit) w base kt .i64 x.val = some z → rowElem w1 base kt .i64 x.val = some z := fun x hx z hz => by
    obtain ⟨zs, ho, rfl⟩ := rowElem_inv hz
    exact rowElem_mk (hmv _ _ ho)
  obtain ⟨F1, hmap, _⟩ := F.stay hst
  refine ⟨_, ⟨es, clock, hb.trans hb', F1, hs, by rw [hmap], hbb, fun x hx zs ho => ?_, hap⟩, r⟩
  obtain ⟨y, hy⟩ := F.reads x hx
  obtain ⟨z, hz, _⟩ := Go.WideElems.rd_val hy
  obtain ⟨zs0, ho0, _⟩ := rowElem_inv hz
  rw [ho.unique (hmv _ _ ho0)]
  exact hlen x hx zs0 ho0

theorem Going.iter {P : Program} {kt : TypeId} {w : World} {b r cnt : Nat} {S left : List Int} (h : Going P kt w b r S left cnt) : ∃ since seen c0, w.heap[r]? = some (.mapIter (some b) since seen c0) := by
  obtain ⟨D, n', f, ⟨es, clk, since, seen, c0, h1, h2, h3, h4, h5, _⟩, _⟩ := h
  exact ⟨since, seen, c0, h5⟩
theorem isMap_ne {w : World} {P : Program} {kt : TypeId} {b : Nat} {S : List Int} (h : IsSet P kt w b S) : ∀ c t f, w.heap[b]? ≠ some (.cells c t f) := fun c t f e => by
  obtain ⟨es, cl, hb⟩ := h.block
  rw [hb] at e
  cases e

/-- All that a spreader's world is. -/
structure SpW (w : World) (g : Nat) (lv : Value) (bi bs bw base n : Nat) (G : Int → List Int) (S W : List Int) : Prop where
  blk : SpBlk w g lv bi bs bw
  rows : HasRows Try.prog 3 w base bi n G
  is_ : IsSet Try.prog 3 w bs S
  wt : IsSet Try.prog 3 w bw W
  ne : bs ≠ bw
  nis : bi ≠ bs
  niw : bi ≠ bw
theorem SpW.g_ne {w : World} {g : Nat} {lv : Value} {bi bs bw base n : Nat} {G : Int → List Int} {S W : List Int} (h : SpW w g lv bi bs bw base n G S W) : g ≠ bs ∧ g ≠ bw := by
  obtain ⟨es, cl, hb⟩ := h.is_.block
  obtain ⟨es', cl', hb'⟩ := h.wt.block
  exact ⟨h.blk.ne_map hb, h.blk.ne_map hb'⟩
/-- Other sets in the two blocks. -/
theorem SpW.turn {w w1 : World} {g : Nat} {lv : Value} {bi bs bw base n : Nat} {G : Int → List Int} {S W S1 W1 : List Int} (h : SpW w g lv bi bs bw base n G S W) (hS : IsSet Try.prog 3 w1 bs S1) (hW : IsSet Try.prog 3 w1 bw W1)
    (hf : ∀ i, i < w.heap.size → i ≠ bs → i ≠ bw → (∀ b s e c, w.heap[i]? ≠ some (.mapIter b s e c)) → w1.heap[i]? = w.heap[i]?) : SpW w1 g lv bi bs bw base n G S1 W1 := by
  have hg := h.g_ne
  refine ⟨h.blk.at_ (hf g h.blk.lt hg.1 hg.2 fun _ _ _ _ e => ?_), h.rows.move (hf bi h.rows.lt h.nis h.niw fun _ _ _ _ e => ?_) (fun i c t f _ he => hf i (lt_of_block he) (fun e => ?_) (fun e => ?_) fun _ _ _ _ e => ?_), hS, hW, h.ne, h.nis, h.niw⟩
  · have := h.blk
    unfold SpBlk at this
    rw [this] at e
    cases e
  · obtain ⟨es, cl, hb⟩ := h.rows.block
    rw [hb] at e
    cases e
  · subst e; exact isMap_ne h.is_ _ _ _ he
  · subst e; exact isMap_ne h.wt _ _ _ he
  · rw [he] at e; cases e

def Sp2 (bs bw : Nat) (i : Nat) : Prop := i = bs ∨ i = bw

/-- A list of clauses that came in: its rows. -/
theorem rows_at {w : World} {A : Option Addr} {n : Nat} {l : List (List Int)} (h : Kd.C (Kd.slice 3 (Kd.int .i64)) w A n l) {m : Nat} (hm : m < n) :
    ∃ ad A0 c0, A = some ad ∧ w.cell? (ad.add m) = some (.slice A0 (row l m).length c0) ∧ (row l m).length ≤ c0 ∧ (Kd.int .i64).C w A0 (row l m).length (row l m) := by
  obtain ⟨ad, c, e, _, hK, hc0⟩ := Kd.C_get h ([] : List Int) (m : Int) (by omega) (by omega)
  rw [Int.toNat_natCast] at hc0 hK
  obtain ⟨A0, c0, rfl, l0, g0⟩ := hK
  exact ⟨ad, A0, c0, e, by have hq := hc0 0 _ rfl; rwa [Nat.add_zero, show (m * (Kd.slice 3 (Kd.int .i64)).sz) = m from Nat.mul_one m] at hq, l0, g0⟩

/-! ### ask, way by way -/
section
variable {w : World} {g bi bs bw : Nat} {lv : Value} {S W : List Int} {A : Option Addr} {c : List Int} {cap : Nat}
theorem ask_c_none (hg : SpBlk w g lv bi bs bw) (hS : IsSet Try.prog 3 w bs S) (hW : IsSet Try.prog 3 w bw W) (hne : bs ≠ bw)
    (hlS : S.length < 9223372036854775807) (hlW : W.length < 9223372036854775807) (hWS : ∀ x ∈ W, x ∈ S) (hc : Lits c) (hC : Kd.C (Kd.int .i64) w A c.length c) (hcap : c.length ≤ cap) (hlen : c.length ≤ 9223372036854775807) (h : askLoop S 0 c = none) :
    Calls Try.prog 69 #[.pointer (some ⟨g, 0, none⟩), .slice A c.length cap] w fun e w' => e = .returned (.bool true) ∧ w' = w :=
  (ask_calls hg hS hW hne hlS hlW hWS hc hC hcap hlen).mono fun e w' hp => by
    rcases hp with ⟨_, h1, h2⟩ | ⟨h', _⟩ | ⟨z, _, h', _⟩
    · exact ⟨h1, h2⟩
    · rw [h] at h'; cases h'
    · rw [h] at h'; cases h'
theorem ask_c_zero (hg : SpBlk w g lv bi bs bw) (hS : IsSet Try.prog 3 w bs S) (hW : IsSet Try.prog 3 w bw W) (hne : bs ≠ bw)
    (hlS : S.length < 9223372036854775807) (hlW : W.length < 9223372036854775807) (hWS : ∀ x ∈ W, x ∈ S) (hc : Lits c) (hC : Kd.C (Kd.int .i64) w A c.length c) (hcap : c.length ≤ cap) (hlen : c.length ≤ 9223372036854775807) (h : askLoop S 0 c = some 0) :
    Calls Try.prog 69 #[.pointer (some ⟨g, 0, none⟩), .slice A c.length cap] w fun e w' => e = .returned (.bool false) ∧ w' = w :=
  (ask_calls hg hS hW hne hlS hlW hWS hc hC hcap hlen).mono fun e w' hp => by
    rcases hp with ⟨h', _⟩ | ⟨_, h1, h2⟩ | ⟨z, hz, h', _⟩
    · rw [h] at h'; cases h'
    · exact ⟨h1, h2⟩
    · rw [h] at h'; exact absurd (by simpa using h'.symm) hz
theorem ask_c_one {z : Int} (hg : SpBlk w g lv bi bs bw) (hS : IsSet Try.prog 3 w bs S) (hW : IsSet Try.prog 3 w bw W) (hne : bs ≠ bw)
    (hlS : S.length < 9223372036854775807) (hlW : W.length < 9223372036854775807) (hWS : ∀ x ∈ W, x ∈ S) (hc : Lits c) (hC : Kd.C (Kd.int .i64) w A c.length c) (hcap : c.length ≤ cap) (hlen : c.length ≤ 9223372036854775807) (h : askLoop S 0 c = some z) (hz : z ≠ 0) :
    Calls Try.prog 69 #[.pointer (some ⟨g, 0, none⟩), .slice A c.length cap] w fun e w' => e = .returned (.bool true) ∧ (IsSet Try.prog 3 w' bs (z :: S) ∧ IsSet Try.prog 3 w' bw (z :: W) ∧ Fr w w' (Sp2 bs bw)) :=
  (ask_calls hg hS hW hne hlS hlW hWS hc hC hcap hlen).mono fun e w' hp => by
    rcases hp with ⟨h', _⟩ | ⟨h', _⟩ | ⟨z', _, h', h1, h2⟩
    · rw [h] at h'; cases h'
    · rw [h] at h'; exact absurd (by simpa using h') hz
    · rw [h] at h'
      cases h'
      exact ⟨h1, h2⟩
end

/-- What a call of 'run' comes to. -/
def RunPost (l : List (List Int)) (fr : List Int) (bs bw : Nat) (w : World) (e : Ending) (w' : World) : Prop :=
  Fr w w' (Sp2 bs bw) ∧ ((Fails l fr ∧ e = .returned (.bool false)) ∨ (¬ Fails l fr ∧ e = .returned (.bool true) ∧ ∃ S, IsSet Try.prog 3 w' bs S ∧ S.Nodup ∧ Apart S ∧ Lits S ∧ ∀ x, x ∈ S ↔ Der l fr x))

set_option maxRecDepth 100000 in
set_option maxHeartbeats 4000000 in
theorem run_calls {w0 w : World} {g bi bs bw base n : Nat} {A : Option Addr} {cap : Nat} {l : List (List Int)} {fr S W : List Int} (h : SpW w g (.slice A l.length cap) bi bs bw base n (inOf l) S W) (hn : n < 4611686018427387904) (hR : RInv l fr S W [] fr.length l.length)
    (hC : Kd.C (Kd.slice 3 (Kd.int .i64)) w0 A l.length l) (hcap : l.length ≤ cap) (h0 : Below w0.heap.size w0 w) (hb1 : w0.heap.size ≤ bs) (hb2 : w0.heap.size ≤ bw) (hl : lRight l = true)
    (hsz : fr.length + total l < 4611686018427387904) (hll : l.length < 4611686018427387904) (hcl : ∀ c ∈ l, c.length < 4611686018427387904) :
    Calls Try.prog 70 #[.pointer (some ⟨g, 0, none⟩)] w (RunPost l fr bs bw w) := by
  have HSW := Aside0.mk h
  have HRI := Aside0.mk hR
  have HC := Aside0.mk hC
  have H0 := Aside0.mk h0
  have HL := Aside0.mk hl
  have HCL := Aside0.mk hcl
  clear h hR hC h0 hl hcl
  go_enter Try.func70, Try.ntmps70
  go_wp2
  go_loopg [3] (2 * (fr.length + total l - S.length) + W.length) (fun kq v3 wr => ∃ S W : List Int, Aside0 (SpW wr g (.slice A l.length cap) bi bs bw base n (inOf l) S W) ∧ Aside0 (RInv l fr S W [] fr.length l.length) ∧ Aside0 (Fr w wr (Sp2 bs bw)) ∧ Aside0 (2 * (fr.length + total l - S.length) + W.length ≤ kq))
  case atStart => exact ⟨S, W, HSW, HRI, ⟨Fr.refl _ _⟩, ⟨Nat.le_refl _⟩⟩
  case round =>
    obtain ⟨S, W, hsw, hri, hfr, hk⟩ := hrel
    have hc3 := hsw.out.blk.c3
    have hlen := hsw.out.wt.len im
    by_cases hW : W = []
    · subst hW
      simp only [List.length_nil] at hlen
      have hend := Lib.hid hri.out.end_
      go_wp2
      go_ret
      exact ⟨hfr.out, .inr ⟨hend.out.1, rfl, S, hsw.out.is_, hri.out.ndS, hri.out.way.apart, hri.out.lit, hend.out.2⟩⟩
    · have hpos : 0 < W.length := List.length_pos_iff.2 hW
      have hposB : decide ((W.length : Int) > 0) = true := by simp; omega
      have hposC : decide (0 < (W.length : Int)) = true := by simp; omega
      have hposD : (0 : Int) < (W.length : Int) := by omega
      have hWf : ∀ x ∈ W, wfI x := fun x hx => by have := hri.out.lit x (hri.out.sub x hx); exact wf_lit this.1 this.2.1
      have HWf := Aside0.mk hWf
      have HW := Aside0.mk hW
      clear hWf hW
      go_wp2_with (first
        | (at_range; refine set_range im rfl _ rfl rfl hsw.out.wt hri.out.nd HWf.out ?_; intro w1 cnt hgo hgr hs1)
        | go_in)
      go_frame
      have hf1 : ∀ i, i < wr.heap.size → w1.heap[i]? = wr.heap[i]? := fun i hi => hgr.block i hi (by simp)
      have hsw1 := hsw.out.turn (hsw.out.is_.at_ (hf1 _ hsw.out.is_.lt)) (hsw.out.wt.at_ (hf1 _ hsw.out.wt.lt)) (fun i hi _ _ _ => hf1 i hi)
      have hfr1 := Aside0.mk (hfr.out.then_ (Fr.of_grown (S := fun _ => False) hgr (by simp)) (by simp))
      have HSW1 := Aside0.mk hsw1
      have HGO := Aside0.mk hgo
      have hgoI := Aside0.mk hgo.iter
      have hsz1 : wr.heap.size < w1.heap.size := by omega
      have hszr : w.heap.size ≤ wr.heap.size := hfr.out.size
      have hglt : g < wr.heap.size := hsw.out.blk.lt
      have hslt : bs < wr.heap.size := hsw.out.is_.lt
      clear hf1 hsw1 hgo hgr hs1 hsw hfr hlen
      refine wp_loop_rounds 1 ?_
      rw [rounds_succ]
      go_wp2_with (first
        | (at_next; refine set_next im rfl _ rfl rfl HGO.out ?_ ?_)
        | go_in)
      · intro he
        exact absurd he HW.out
      · intro x c w2 cnt2 hxW hxwf hgo2 _ hg2 hs2 hen
        have hS2 : IsSet Try.prog 3 w2 bs S := HSW1.out.is_.at_ (hg2.block bs HSW1.out.is_.lt fun e => by injection e; omega)
        have hsw2 := HSW1.out.turn hS2 hgo2.set fun i hi h1 h2 h3 => hg2.block i hi fun e => by
          obtain ⟨since, seen, c0, hb⟩ := hgoI.out
          cases e
          exact h3 _ _ _ _ hb
        have hfr2 := hfr1.out.then_ (Fr.of_grown (S := fun i => i = wr.heap.size) hg2 (fun j e _ => by cases e; rfl)) (fun i e => .inr (by omega))
        have hc3' := hsw2.blk.c3
        have hxb := hri.out.lit x (hri.out.sub x hxW)
        have HSW2 := Aside0.mk hsw2
        have HFR2 := Aside0.mk hfr2
        have HW2 := Aside0.mk hgo2.set
        have hxm := Aside0.mk hxW
        have hxwf' := Aside0.mk hxwf
        have HSZ2 := Aside0.mk hg2.size
        clear hsw2 hfr2 hS2 hgo2 hg2 hs2 hxW hxwf HSW1 hfr1 HGO hgoI
        go_wp2_with (first
          | (at_delete; refine set_delete im rfl _ _ rfl HW2.out hri.out.nd hxwf'.out hxm.out rfl rfl ?_; intro w3 hW3 ht3; have HSW3 := Aside0.mk (HSW2.out.turn (HSW2.out.is_.at_ (turned_other ht3 HSW2.out.ne HSW2.out.is_.lt)) hW3 (fun i hi h1 h2 h3 => turned_other ht3 h2 hi)); have HFR3 := Aside0.mk (HFR2.out.then_ (Fr.of_turned (S := fun i => i = bw) ht3 rfl) (fun i e => .inl (.inr e))); have hc1' := HSW3.out.blk.c1; obtain ⟨v, hrun, hoi, hvl, _⟩ := HSW3.out.rows.look gm (by unfold maxLen; omega) (x := -x) (wf_lit (by omega) (by omega)); obtain ⟨Av, cv, rfl, hrv⟩ := own_reads (k := .i64) hoi.1; have HRV := Aside0.mk hoi; have HRI3 := Aside0.mk (hri.out.pop hxm.out); have hsz3 := Aside0.mk (Nat.lt_of_lt_of_le hsz1 (Nat.le_trans HSZ2.out ht3.grown.size)); have hri0 := hri; clear hW3 ht3 hoi hrv hri)
          | go_in)
        have hszw : W.length ≤ S.length := hri0.out.sizeW
        have hszs : S.length ≤ fr.length + total l := hri0.out.size
        have hera : (W.erase x).length + 1 = W.length := by have := List.length_erase_of_mem hxm.out; omega
        have HERA := Lib.hid hera
        have hw3 : wr.heap.size < w3.heap.size := hsz3.out
        clear hera hc3 hc3' hc1' hposB hposC hposD hrun hri0
        go_loopw [34] (fun v34 w4 => ∃ (i : Nat) (S' W' : List Int), v34 = .int .i64 i ∧ Aside0 (i ≤ (inOf l (-x)).length) ∧ Aside0 (SpW w4 g (.slice A l.length cap) bi bs bw base n (inOf l) S' W') ∧ Aside0 (RInv l fr S' W' ((inOf l (-x)).drop i) fr.length l.length) ∧ Aside0 (Fr w w4 (Sp2 bs bw)) ∧
            Aside0 (2 * (fr.length + total l - S'.length) + W'.length ≤ 2 * (fr.length + total l - S.length) + (W.erase x).length) ∧ Aside0 (w4.ownsInts base 3 .i64 (.slice Av (inOf l (-x)).length cv) (inOf l (-x))))
          (fun i _ => (inOf l (-x)).length - (intOf i).toNat)
        case atStart => exact ⟨0, S, W.erase x, rfl, ⟨Nat.zero_le _⟩, HSW3, HRI3, HFR3, ⟨Nat.le_refl _⟩, HRV⟩
        case round =>
          clear HSW3 HFR3 HRV HRI3
          obtain ⟨i, S', W', rfl, hi, hsw, hri, hfr, hm, hrv⟩ := hrel
          have hi := hi.out
          by_cases hlt : i < (inOf l (-x)).length
          · obtain ⟨m, hml, hz, hxm'⟩ := mem_inOf.1 (rd_mem hlt)
            have hdrop := ask_drop hlt
            rw [hz] at hdrop
            obtain ⟨ad, e, hcell⟩ := (own_reads' (k := .i64) hrv.out.1).at_ (i : Int) (by omega) (by omega)
            cases e
            rw [Int.toNat_natCast, hz] at hcell
            have hB4 := hfr.out.below H0.out H0.out.size (fun j hj => by rcases hj with rfl | rfl <;> assumption)
            obtain ⟨ad', A0, c0, e, hcell', hlc, hrow⟩ := rows_at (Kd.C_below HC.out hB4) hml
            cases e
            have hc0 := hsw.out.blk.c0
            have hri1 : RInv l fr S' W' ((m : Int) :: (inOf l (-x)).drop (i + 1)) fr.length l.length := by rw [← hdrop]; exact hri.out
            have hrm := row_mem hml
            have hlits := lits_of (cRight_of HL.out hrm)
            have hcl := HCL.out _ hrm
            have hs1 := hri1.size
            have hs2 := hri1.sizeW
            have h0s : ∀ z ∈ row l m, z ≠ 0 := fun z hz => (hlits z hz).2.2
            have hmB : (m : Int) < (l.length : Int) := by omega
            have hmB0 : (0 : Int) ≤ (m : Int) := by omega
            cases hask : askLoop S' 0 (row l m) with
            | none =>
              have HCON := Lib.hid (ask_c_none hsw.out.blk hsw.out.is_ hsw.out.wt hsw.out.ne (by omega) (by omega) hri1.sub hlits hrow hlc (by omega) hask)
              have HR1 := Aside0.mk (hri1.again (ask_none h0s hask))
              clear hdrop hz hlits hcl h0s hri1 hri hrow hask hs1 hs2 hB4
              go_wp2_with (go_at_call 69; refine (HCON.out).mono ?_; rintro e w' ⟨rfl, rfl⟩)
              go_roundw
              case rel => exact ⟨i + 1, S', W', by go_num, ⟨hlt⟩, hsw, HR1, hfr, hm, hrv⟩
              case measure => simp [intOf]; omega
            | some z =>
              by_cases hz0 : z = 0
              · subst hz0
                have HCON := Lib.hid (ask_c_zero hsw.out.blk hsw.out.is_ hsw.out.wt hsw.out.ne (by omega) (by omega) hri1.sub hlits hrow hlc (by omega) hask)
                have hend := Lib.hid (hri1.fails hrm (ask_zero h0s hask))
                clear hdrop hz hlits hcl h0s hri1 hri hrow hask hs1 hs2 hB4
                go_wp2_with (go_at_call 69; refine (HCON.out).mono ?_; rintro e w' ⟨rfl, rfl⟩)
                go_ret
                exact ⟨hfr.out, .inl ⟨hend.out, rfl⟩⟩
              · obtain ⟨z1, z2, z3, z4⟩ := ask_one h0s hask hz0
                have hzb := hlits z z1
                have HCON := Lib.hid (ask_c_one hsw.out.blk hsw.out.is_ hsw.out.wt hsw.out.ne (by omega) (by omega) hri1.sub hlits hrow hlc (by omega) hask hz0)
                have hri2 := hri1.more (hri1.unit hrm z1 z4) hz0 z2 z3 ⟨hzb.1, hzb.2.1⟩ (.inr ⟨_, hrm, z1⟩)
                have hss := hri2.size
                simp only [List.length_cons] at hss
                have HR1 := Aside0.mk (hri2.again (.inl ⟨z, z1, by simp⟩))
                clear hdrop hz hlits hcl h0s hri1 hri hrow hask hs1 hs2 hB4 hri2 z1 z2 z3 z4 hz0 hzb
                go_wp2_with (go_at_call 69; refine (HCON.out).mono ?_; rintro e w' ⟨rfl, hS', hW', hf'⟩; have HQ := Aside0.mk (And.intro hS' (And.intro hW' hf')); clear hS' hW' hf')
                go_roundw
                case rel =>
                  refine ⟨i + 1, z :: S', z :: W', by go_num, ⟨hlt⟩, ⟨hsw.out.turn HQ.out.1 HQ.out.2.1 (fun j hj h1 h2 _ => HQ.out.2.2.block j hj (fun h => by rcases h with h | h; exact h1 h; exact h2 h))⟩, HR1, ⟨hfr.out.trans HQ.out.2.2⟩, ⟨?_⟩, ⟨ownsInts_move hrv.out fun j hj => ?_⟩⟩
                  · have := hm.out; simp only [List.length_cons]; omega
                  · obtain ⟨cells, hcj⟩ := own_typed hrv.out.1 j hj
                    refine HQ.out.2.2.block j (lt_of_block hcj) fun h => ?_
                    rcases h with h | h
                    · subst h; exact isMap_ne hsw.out.is_ _ _ _ hcj
                    · subst h; exact isMap_ne hsw.out.wt _ _ _ hcj
                case measure => simp [intOf]; omega
          · have hi' : i = (inOf l (-x)).length := by omega
            subst hi'
            go_wp2
            go_roundg (2 * (fr.length + total l - S'.length) + W'.length)
            case measure => have := hm.out; have := hk.out; have := HERA.out; omega
            case rel => exact ⟨S', W', hsw, ⟨by have := hri.out; rw [List.drop_length] at this; exact this⟩, hfr, ⟨Nat.le_refl _⟩⟩
end Go.Proofs.Ytphloehjcfipfaa.Cl
end

section
-- Lines printed by a program of the session's own (wip/pr.py over the kit's print.py); Lean checks them.
namespace Go.Proofs.Ytphloehjcfipfaa.X
open Go.RowKit Go.Proofs.YtphloehjcfipfaaW.PrintWords Go.Proofs.YtphloehjcfipfaaW.PrintLast Go.Proofs.YtphloehjcfipfaaW.PrintMore
attribute [local go_sem] max2_int min2_int max_two min_two max_three min_three max_four min_four   -- for this text's walks alone
set_option linter.unusedVariables false
set_option linter.unusedSimpArgs false

/-! ### clause_literal: function 38 -/
def clause_literal.f (a0 : Int) : Option (Bool) := if a0 = 0 then (some false) else (if a0 ≥ (-1048576) then (some (decide (a0 ≤ 1048576))) else (some false))
set_option maxHeartbeats 8000000 in
set_option maxRecDepth 100000 in
theorem clause_literal.calls (a0 : Int) (r : Bool) (w : World) (h : clause_literal.f a0 = some r) :
    Calls Try.prog 38 #[.int .i64 a0] w fun e w' => e = .returned (.bool r) ∧ Drawn0 w w' := by
  have H : (if a0 = 0 then (some false) else (if a0 ≥ (-1048576) then (some (decide (a0 ≤ 1048576))) else (some false))) = some r := h
  clear h
  by_cases c2 : a0 = 0
  · rw [if_pos c2] at H
    have c2b0 : (a0 == 0) = true := beq_iff_eq.mpr c2
    have c2b1 : (a0 != 0) = false := bne_eq_false_iff_eq.mpr c2
    clear c2
    obtain rfl := Option.some.inj H
    go_enter Try.func38, Try.ntmps38
    go_wp2
    go_ret
    exact ⟨by first | rfl | (simp; done) | (simp [*]; done), by repeat (first | exact Drawn0.refl _ | apply Drawn0.step)⟩
  · rw [if_neg c2] at H
    have c2b0 : (a0 == 0) = false := beq_eq_false_iff_ne.mpr c2
    have c2b1 : (a0 != 0) = true := bne_iff_ne.mpr c2
    by_cases c3 : a0 ≥ (-1048576)
    · rw [if_pos c3] at H
      have c3b0 : decide ((-1048576) ≤ a0) = true := decide_eq_true c3
      clear c3
      obtain rfl := Option.some.inj H
      go_enter Try.func38, Try.ntmps38
      go_wp2
      go_ret
      exact ⟨by first | rfl | (simp; done) | (simp [*]; done), by repeat (first | exact Drawn0.refl _ | apply Drawn0.step)⟩
    · rw [if_neg c3] at H
      have c3b0 : decide ((-1048576) ≤ a0) = false := decide_eq_false c3
      clear c3
      obtain rfl := Option.some.inj H
      go_enter Try.func38, Try.ntmps38
      go_wp2
      go_ret
      exact ⟨by first | rfl | (simp; done) | (simp [*]; done), by repeat (first | exact Drawn0.refl _ | apply Drawn0.step)⟩

/-! ### clause_Right: function 16 -/
mutual
def clause_Right.l0 : Nat → List (List Int) → Int → Int → Option (Int)
  | 0, _, _, _ => none
  | k + 1, x7, x8, x9 => if x9 < x8 then (if 0 ≤ x9 then (if x9 < (x7.length : Int) then (clause_Right.l1 k x7 x8 x9 (rd_L1 x7 x9) ((rd_L1 x7 x9).length : Int) 0) else (none)) else (none)) else (some 0)
def clause_Right.l1 : Nat → List (List Int) → Int → Int → List Int → Int → Int → Option (Int)
  | 0, _, _, _, _, _, _ => none
  | k + 1, x7, x8, x9, x13, x14, x15 => if x15 < x14 then (if 0 ≤ x15 then (if x15 < (x13.length : Int) then ((clause_literal.f (rd x13 x15)).bind fun t103 => (if t103 = true then (clause_Right.l1 k x7 x8 x9 x13 x14 (wrap64 (x15 + 1))) else (some 3))) else (none)) else (none)) else (clause_Right.l0 k x7 x8 (wrap64 (x9 + 1)))
end
def clause_Right.f (k : Nat) (l0 : List (List Int)) : Option (Int) := clause_Right.l0 k l0 (l0.length : Int) 0
theorem clause_Right.mono_l : ∀ k, (∀ y0 y1 y2, LeO (clause_Right.l0 k y0 y1 y2) (clause_Right.l0 (k + 1) y0 y1 y2)) ∧ (∀ y0 y1 y2 y3 y4 y5, LeO (clause_Right.l1 k y0 y1 y2 y3 y4 y5) (clause_Right.l1 (k + 1) y0 y1 y2 y3 y4 y5))
  | 0 => ⟨fun _ _ _ r h => by simp [clause_Right.l0] at h, fun _ _ _ _ _ _ r h => by simp [clause_Right.l1] at h⟩
  | k + 1 => by
    obtain ⟨ih0, ih1⟩ := clause_Right.mono_l k
    refine ⟨?_, ?_⟩
    · intro y0 y1 y2
      unfold clause_Right.l0
      repeat' first
      | (with_reducible exact ih0 _ _ _)
      | (with_reducible exact ih1 _ _ _ _ _ _)
      | (with_reducible exact LeO.refl _)
      | (with_reducible exact LeO.none _)
      | (with_reducible refine LeO.ite ?_ ?_)
      | (with_reducible refine LeO.bind ?_ (fun _ => ?_))
      | exact ih0 _ _ _
      | exact ih1 _ _ _ _ _ _
      | exact LeO.none _
      | refine LeO.ite ?_ ?_
      | refine LeO.bind ?_ (fun _ => ?_)
    · intro y0 y1 y2 y3 y4 y5
      unfold clause_Right.l1
      repeat' first
      | (with_reducible exact ih0 _ _ _)
      | (with_reducible exact ih1 _ _ _ _ _ _)
      | (with_reducible exact LeO.refl _)
      | (with_reducible exact LeO.none _)
      | (with_reducible refine LeO.ite ?_ ?_)
      | (with_reducible refine LeO.bind ?_ (fun _ => ?_))
      | exact ih0 _ _ _
      | exact ih1 _ _ _ _ _ _
      | exact LeO.none _
      | refine LeO.ite ?_ ?_
      | refine LeO.bind ?_ (fun _ => ?_)
theorem clause_Right.mono : ∀ a0 k, LeO (clause_Right.f k a0) (clause_Right.f (k + 1) a0) := by
  intro a0 k
  obtain ⟨ih0, ih1⟩ := clause_Right.mono_l k
  unfold clause_Right.f
  repeat' first
      | (with_reducible exact ih0 _ _ _)
      | (with_reducible exact ih1 _ _ _ _ _ _)
      | (with_reducible exact LeO.refl _)
      | (with_reducible exact LeO.none _)
      | (with_reducible refine LeO.ite ?_ ?_)
      | (with_reducible refine LeO.bind ?_ (fun _ => ?_))
      | exact ih0 _ _ _
      | exact ih1 _ _ _ _ _ _
      | exact LeO.none _
      | refine LeO.ite ?_ ?_
      | refine LeO.bind ?_ (fun _ => ?_)
set_option maxHeartbeats 8000000 in
set_option maxRecDepth 100000 in
theorem clause_Right.calls (k : Nat) (A0 : Option Addr) (c0 : Nat) (l0 : List (List Int)) (r : Int) (w : World) (hr0 : Kd.C (Kd.slice 3 (Kd.int .i64)) w A0 l0.length l0) (hc0 : l0.length ≤ c0) (h : clause_Right.f k l0 = some r) :
    Calls Try.prog 16 #[.slice A0 l0.length c0] w fun e w' => e = .returned (.int .i64 r) ∧ Drawn0 w w' := by
  have HR0 := Aside0.mk hr0
  have HC0 := Aside0.mk hc0
  clear hr0 hc0
  have H : (clause_Right.l0 k l0 (l0.length : Int) 0) = some r := h
  clear h
  have H' := Aside0.mk H
  clear H
  go_enter Try.func16, Try.ntmps16
  go_wp2
  go_loopg [9] k (fun kq v9 w' => ∃ (x9_1 : Int), v9 = .int .i64 x9_1 ∧ Aside0 (clause_Right.l0 kq l0 (l0.length : Int) x9_1 = some r) ∧ Aside0 (kq ≤ k) ∧ Drawn0 w w')
  case atStart => exact ⟨(0), (by first | rfl | (simp; done) | (simp [*]; done)), H', ⟨Nat.le_refl _⟩, by repeat (first | exact Drawn0.refl _ | apply Drawn0.step)⟩
  case round =>
    clear H'
    try clear c1
    obtain ⟨x9_1, rfl, HA, HK1, ⟨m1, rfl⟩⟩ := hrel
    cases gk with
    | zero => exact absurd HA.out (by simp [clause_Right.l0])
    | succ k1 =>
      have H := HA.out
      clear HA
      simp only [clause_Right.l0] at H
      by_cases c2 : x9_1 < (l0.length : Int)
      · rw [if_pos c2] at H
        have c2b0 : decide (x9_1 < (l0.length : Int)) = true := decide_eq_true c2
        clear c2
        by_cases c3 : 0 ≤ x9_1
        · rw [if_pos c3] at H
          have c3b0 : decide (0 ≤ x9_1) = true := decide_eq_true c3
          clear c3
          by_cases c4 : x9_1 < (l0.length : Int)
          · rw [if_pos c4] at H
            have c4b0 : decide (x9_1 < (l0.length : Int)) = true := decide_eq_true c4
            clear c4
            have H' := Aside0.mk H
            clear H
            have p101 : 0 ≤ (x9_1 : Int) := of_decide_eq_true (by first | (with_reducible assumption) | assumption)
            have q101 : x9_1 < (l0.length : Int) := of_decide_eq_true (by first | (with_reducible assumption) | assumption)
            obtain ⟨ad101, A101_0, c101_0, e101, hx101_0, hl101_0, hi101_0⟩ := at_L1 HR0.out x9_1 p101 q101
            cases e101
            have HR101_0 := Aside0.mk hi101_0
            have HC101_0 := Aside0.mk hl101_0
            clear hi101_0 hl101_0
            replace p101 := eq_true p101
            replace q101 := eq_true q101
            go_wp2
            go_loopg [15] k1 (fun kq v15 w' => ∃ (x15_2 : Int), v15 = .int .i64 x15_2 ∧ Aside0 (clause_Right.l1 kq l0 (l0.length : Int) x9_1 (rd_L1 l0 x9_1) ((rd_L1 l0 x9_1).length : Int) x15_2 = some r) ∧ Aside0 (kq ≤ k1) ∧ Drawn0 w w')
            case atStart => exact ⟨(0), (by first | rfl | (simp; done) | (simp [*]; done)), H', ⟨Nat.le_refl _⟩, by repeat (first | exact Drawn0.refl _ | apply Drawn0.step)⟩
            case round =>
              clear H'
              try clear c1
              try clear p1
              try clear q1
              try clear hx1
              try clear c2
              try clear c2b0
              try clear p2
              try clear c3
              try clear c3b0
              try clear c4
              try clear c4b0
              try clear hx101_0
              try clear p101
              try clear q101
              obtain ⟨x15_2, rfl, HA, HK2, ⟨m2, rfl⟩⟩ := hrel
              cases gk with
              | zero => exact absurd HA.out (by simp [clause_Right.l1])
              | succ k2 =>
                have H := HA.out
                clear HA
                simp only [clause_Right.l1] at H
                by_cases c5 : x15_2 < ((rd_L1 l0 x9_1).length : Int)
                · rw [if_pos c5] at H
                  have c5b0 : decide (x15_2 < ((rd_L1 l0 x9_1).length : Int)) = true := decide_eq_true c5
                  clear c5
                  by_cases c6 : 0 ≤ x15_2
                  · rw [if_pos c6] at H
                    have c6b0 : decide (0 ≤ x15_2) = true := decide_eq_true c6
                    clear c6
                    by_cases c7 : x15_2 < ((rd_L1 l0 x9_1).length : Int)
                    · rw [if_pos c7] at H
                      have c7b0 : decide (x15_2 < ((rd_L1 l0 x9_1).length : Int)) = true := decide_eq_true c7
                      clear c7
                      replace H := Option.bind_eq_some_iff.mp H
                      obtain ⟨t103, A80, H⟩ := H
                      replace H : (if t103 = true then (clause_Right.l1 k2 l0 (l0.length : Int) x9_1 (rd_L1 l0 x9_1) ((rd_L1 l0 x9_1).length : Int) (wrap64 (x15_2 + 1))) else (some 3)) = some r := H
                      have A8 := Aside0.mk A80
                      clear A80
                      by_cases c9 : t103 = true
                      · subst c9
                        have H1 : (clause_Right.l1 k2 l0 (l0.length : Int) x9_1 (rd_L1 l0 x9_1) ((rd_L1 l0 x9_1).length : Int) (wrap64 (x15_2 + 1))) = some r := by rw [if_pos rfl] at H; exact H
                        clear H
                        have H := H1
                        clear H1
                        have H' := Aside0.mk H
                        clear H
                        have p102 : 0 ≤ (x15_2 : Int) := of_decide_eq_true (by first | (with_reducible assumption) | assumption)
                        have q102 : x15_2 < ((rd_L1 l0 x9_1).length : Int) := of_decide_eq_true (by first | (with_reducible assumption) | assumption)
                        obtain ⟨ad102, e102, hx102_0⟩ := Kd.at_int HR101_0.out x15_2 p102 q102
                        cases e102
                        replace p102 := eq_true p102
                        replace q102 := eq_true q102
                        go_wp2_with (first | ((with_reducible refine gate_callee (f := 38) rfl ?_); refine goesL_ (some 20) rfl rfl Try.func38 (by kernel_rfl) rfl #[.int .i64 (rd (rd_L1 l0 x9_1) x15_2)] rfl (by (try simp only [List.map_toArray, List.map_cons, List.map_nil]); first | done | rfl | (simp only [List.length_drop, List.length_take]; rfl)) ?_; (with_reducible refine (clause_literal.calls (rd (rd_L1 l0 x9_1) x15_2) true _ A8.out).mono ?_); rintro e w' ⟨rfl, ⟨nd, rfl⟩⟩; refine ⟨_, rfl, ?_⟩))
                        go_roundg k2
                        case measure => have := HK1.out; have := HK2.out; omega
                        case rel => exact ⟨(wrap64 (x15_2 + 1)), (by first | rfl | (simp; done) | (simp [*]; done)), H', ⟨by have := HK1.out; have := HK2.out; omega⟩, by repeat (first | exact Drawn0.refl _ | apply Drawn0.step)⟩
                      · replace c9 := Bool.eq_false_iff.mpr c9
                        subst c9
                        have H1 : (some 3) = some r := by rw [if_neg (show ¬ (false = true) by decide)] at H; exact H
                        clear H
                        have H := H1
                        clear H1
                        obtain rfl := Option.some.inj H
                        have p102 : 0 ≤ (x15_2 : Int) := of_decide_eq_true (by first | (with_reducible assumption) | assumption)
                        have q102 : x15_2 < ((rd_L1 l0 x9_1).length : Int) := of_decide_eq_true (by first | (with_reducible assumption) | assumption)
                        obtain ⟨ad102, e102, hx102_0⟩ := Kd.at_int HR101_0.out x15_2 p102 q102
                        cases e102
                        replace p102 := eq_true p102
                        replace q102 := eq_true q102
                        go_wp2_with (first | ((with_reducible refine gate_callee (f := 38) rfl ?_); refine goesL_ (some 20) rfl rfl Try.func38 (by kernel_rfl) rfl #[.int .i64 (rd (rd_L1 l0 x9_1) x15_2)] rfl (by (try simp only [List.map_toArray, List.map_cons, List.map_nil]); first | done | rfl | (simp only [List.length_drop, List.length_take]; rfl)) ?_; (with_reducible refine (clause_literal.calls (rd (rd_L1 l0 x9_1) x15_2) false _ A8.out).mono ?_); rintro e w' ⟨rfl, ⟨nd, rfl⟩⟩; refine ⟨_, rfl, ?_⟩))
                        go_ret
                        exact ⟨by first | rfl | (simp; done) | (simp [*]; done), by repeat (first | exact Drawn0.refl _ | apply Drawn0.step)⟩
                    · rw [if_neg c7] at H
                      exact absurd H (by simp)
                  · rw [if_neg c6] at H
                    exact absurd H (by simp)
                · rw [if_neg c5] at H
                  have c5b0 : decide (x15_2 < ((rd_L1 l0 x9_1).length : Int)) = false := decide_eq_false c5
                  clear c5
                  have H' := Aside0.mk H
                  clear H
                  go_wp2
                  go_roundg k2
                  case measure => have := HK1.out; have := HK2.out; omega
                  case rel => exact ⟨(wrap64 (x9_1 + 1)), (by first | rfl | (simp; done) | (simp [*]; done)), H', ⟨by have := HK1.out; have := HK2.out; omega⟩, by repeat (first | exact Drawn0.refl _ | apply Drawn0.step)⟩
          · rw [if_neg c4] at H
            exact absurd H (by simp)
        · rw [if_neg c3] at H
          exact absurd H (by simp)
      · rw [if_neg c2] at H
        have c2b0 : decide (x9_1 < (l0.length : Int)) = false := decide_eq_false c2
        clear c2
        obtain rfl := Option.some.inj H
        go_wp2
        go_ret
        exact ⟨by first | rfl | (simp; done) | (simp [*]; done), by repeat (first | exact Drawn0.refl _ | apply Drawn0.step)⟩

/-! ### clause_variable: function 52 -/
def clause_variable.f (a0 : Int) : Option (Int) := some (mx a0 (wrap64 (-a0)))
set_option maxHeartbeats 8000000 in
set_option maxRecDepth 100000 in
theorem clause_variable.calls (a0 : Int) (r : Int) (w : World) (h : clause_variable.f a0 = some r) :
    Calls Try.prog 52 #[.int .i64 a0] w fun e w' => e = .returned (.int .i64 r) ∧ Below w.heap.size w w' := by
  have HB := Aside0.mk (Below.refl w.heap.size w)
  have H : (some (mx a0 (wrap64 (-a0)))) = some r := h
  clear h
  obtain ⟨ji2, hji2⟩ : ∃ j_ : Int, (mx a0 (wrap64 (-a0))) = j_ := ⟨_, rfl⟩
  replace H : (some ji2) = some r := by first | (rw [hji2] at H; exact H) | (simp only [hji2] at H ⊢; exact H)
  have hji2_ : (if a0 < (wrap64 (-a0)) then (wrap64 (-a0)) else a0) = ji2 := hji2
  obtain rfl := Option.some.inj H
  go_enter Try.func52, Try.ntmps52
  go_wp2
  go_ret
  exact ⟨by first | rfl | (simp [errW_none, errW_some] <;> rfl) | (simp only [← hji2]; first | rfl | (simp [errW_none, errW_some] <;> rfl)) | (simp [*, errW_none, errW_some] <;> rfl), by repeat (first | (with_reducible first | exact HB.out | apply below_alloc | apply pw_below_drewN | apply below_drew1) | exact HB.out)⟩

-- NOT PRINTED: function 68 (clause_spreader_hold)

-- NOT PRINTED: function 69 (clause_spreader_ask)

-- NOT PRINTED: function 70 (clause_spreader_run)

-- NOT PRINTED: function 105 (bits_Len32)

-- NOT PRINTED: function 106 (bits_Len64)

-- NOT PRINTED: function 93 (bits_Len)

-- NOT PRINTED: function 107 (slices_insertionSortCmpFunc_int)

-- NOT PRINTED: function 120 (slices_siftDownCmpFunc_int)

-- NOT PRINTED: function 108 (slices_heapSortCmpFunc_int)

-- NOT PRINTED: function 116 (slices_nextPowerOfTwo)

-- NOT PRINTED: function 117 (slices_xorshift_Next)

-- NOT PRINTED: function 109 (slices_breakPatternsCmpFunc_int)

-- NOT PRINTED: function 124 (slices_order2CmpFunc_int)

-- NOT PRINTED: function 122 (slices_medianCmpFunc_int)

-- NOT PRINTED: function 121 (slices_medianAdjacentCmpFunc_int)

-- NOT PRINTED: function 110 (slices_choosePivotCmpFunc_int)

-- NOT PRINTED: function 111 (slices_reverseRangeCmpFunc_int)

-- NOT PRINTED: function 112 (slices_partialInsertionSortCmpFunc_int)

-- NOT PRINTED: function 113 (slices_partitionEqualCmpFunc_int)

-- NOT PRINTED: function 114 (slices_partitionCmpFunc_int)

-- NOT PRINTED: function 94 (slices_pdqsortCmpFunc_int)

-- NOT PRINTED: function 87 (slices_SortFunc_int_int)

-- NOT PRINTED: function 71 (clause_sorted_int)

end Go.Proofs.Ytphloehjcfipfaa.X
end

section
/- clause.Right: what the printed function tells, and the call. -/
set_option linter.unusedVariables false
set_option linter.unusedSimpArgs false
namespace Go.Proofs.Ytphloehjcfipfaa.Cl
open Go.RowKit Go.Proofs.YtphloehjcfipfaaW.PrintWords Go.Proofs.YtphloehjcfipfaaW.PrintMore
open Go.Proofs.Ytphloehjcfipfaa.X

theorem wrap_up {i : Int} (h0 : 0 ≤ i) (h : i < 9223372036854775807) : wrap64 (i + 1) = i + 1 := by
  unfold wrap64
  omega
theorem literal_f (x : Int) : clause_literal.f x = some (litOk x) := by
  unfold clause_literal.f litOk
  by_cases h : x = 0
  · subst h; rfl
  · rw [if_neg h]
    by_cases h1 : x ≥ -1048576
    · rw [if_pos h1]; simp [h, show -1048576 ≤ x from h1]
    · rw [if_neg h1]; simp [h, show ¬ -1048576 ≤ x from h1]
theorem drop_all {α : Type} {c : List α} (p : α → Bool) {i : Nat} (h : i < c.length) : (c.drop i).all p = (p c[i] && (c.drop (i + 1)).all p) := by
  rw [List.drop_eq_getElem_cons h, List.all_cons]
theorem rd_at {c : List Int} {i : Nat} (h : i < c.length) : rd c (i : Int) = c[i] := by
  simp [rd, List.getD_eq_getElem?_getD, List.getElem?_eq_getElem h]
theorem rdL_at {l : List (List Int)} {i : Nat} (h : i < l.length) : rd_L1 l (i : Int) = l[i] := by
  simp [rd_L1, List.getD_eq_getElem?_getD, List.getElem?_eq_getElem h]

theorem right_in {l : List (List Int)} {L x9 : Int} {r0 : Int} (h0 : Ev (fun k => clause_Right.l0 k l L (wrap64 (x9 + 1))) r0) (c : List Int) (hc : c.length ≤ 9223372036854775807) (d : Nat) :
    ∀ i : Nat, i ≤ c.length → c.length - i = d → Ev (fun k => clause_Right.l1 k l L x9 c (c.length : Int) (i : Int)) (if (c.drop i).all litOk then r0 else 3) := by
  induction d with
  | zero =>
    intro i hi hd
    have e : i = c.length := by omega
    subst e
    rw [List.drop_length]
    refine Ev.step (f := fun k => clause_Right.l0 k l L (wrap64 (x9 + 1))) (fun k => ?_) h0
    simp only [clause_Right.l1]
    rw [if_neg (by omega)]
  | succ d ih =>
    intro i hi hd
    have hlt : i < c.length := by omega
    have hw : wrap64 ((i : Int) + 1) = ((i + 1 : Nat) : Int) := by rw [wrap_up (by omega) (by omega)]; omega
    rw [drop_all litOk hlt]
    cases hx : litOk c[i] with
    | true =>
      refine Ev.step (f := fun k => clause_Right.l1 k l L x9 c (c.length : Int) ((i + 1 : Nat) : Int)) (fun k => ?_) (ih (i + 1) hlt (by omega))
      simp only [clause_Right.l1]
      rw [if_pos (by omega), if_pos (by omega), if_pos (by omega), rd_at hlt, literal_f, hx, Option.bind_some, if_pos rfl, hw]
    | false =>
      refine Ev.step (f := fun _ => some 3) (fun k => ?_) (Ev.now 3)
      simp only [clause_Right.l1]
      rw [if_pos (by omega), if_pos (by omega), if_pos (by omega), rd_at hlt, literal_f, hx, Option.bind_some]
      rfl
theorem right_out {l : List (List Int)} (hl : l.length ≤ 9223372036854775807) (hc : ∀ c ∈ l, c.length ≤ 9223372036854775807) (d : Nat) :
    ∀ i : Nat, i ≤ l.length → l.length - i = d → Ev (fun k => clause_Right.l0 k l (l.length : Int) (i : Int)) (if (l.drop i).all cRight then 0 else 3) := by
  induction d with
  | zero =>
    intro i hi hd
    have e : i = l.length := by omega
    subst e
    rw [List.drop_length]
    refine Ev.step (f := fun _ => some 0) (fun k => ?_) (Ev.now 0)
    simp only [clause_Right.l0]
    rw [if_neg (by omega)]
  | succ d ih =>
    intro i hi hd
    have hlt : i < l.length := by omega
    have hw : wrap64 ((i : Int) + 1) = ((i + 1 : Nat) : Int) := by rw [wrap_up (by omega) (by omega)]; omega
    have h1 := right_in (l := l) (L := (l.length : Int)) (x9 := (i : Int)) (by rw [hw]; exact ih (i + 1) hlt (by omega)) l[i] (hc _ (List.getElem_mem hlt)) _ 0 (Nat.zero_le _) rfl
    rw [drop_all cRight hlt]
    refine Ev.step (f := fun k => clause_Right.l1 k l (l.length : Int) (i : Int) l[i] (l[i].length : Int) 0) (fun k => ?_) ?_
    · simp only [clause_Right.l0]
      rw [if_pos (by omega), if_pos (by omega), if_pos (by omega), rdL_at hlt]
    · simp only [List.drop_zero] at h1
      cases hx : cRight l[i] with
      | true =>
        unfold cRight at hx
        rw [hx, if_pos rfl] at h1
        simpa using h1
      | false =>
        unfold cRight at hx
        rw [hx] at h1
        simpa using h1
theorem right_ev {l : List (List Int)} (hl : l.length ≤ 9223372036854775807) (hc : ∀ c ∈ l, c.length ≤ 9223372036854775807) : Ev (fun k => clause_Right.f k l) (if lRight l then 0 else 3) := by
  have := right_out hl hc _ 0 (Nat.zero_le _) rfl
  simpa [clause_Right.f, lRight] using this

theorem kdC_len {w : World} {A : Option Addr} {n : Nat} {c : List Int} (h : Kd.C (Kd.int .i64) w A n c) : c.length ≤ 9223372036854775807 := by
  have h1 := h.1
  have h2 := h.2.1
  omega
theorem kdC_rows {w : World} {A : Option Addr} {n : Nat} {l : List (List Int)} (h : Kd.C (Kd.slice 3 (Kd.int .i64)) w A n l) : l.length ≤ 9223372036854775807 ∧ ∀ c ∈ l, c.length ≤ 9223372036854775807 := by
  refine ⟨by have h1 := h.1; have h2 := h.2.1; omega, fun c hc => ?_⟩
  obtain ⟨i, hi, rfl⟩ := List.mem_iff_getElem.1 hc
  have hn : i < n := by have := h.1; omega
  obtain ⟨ad, cs, e, _, hK, _⟩ := Kd.C_get h ([] : List Int) (i : Int) (by omega) (by omega)
  obtain ⟨A0, c0, _, _, g0⟩ := hK
  simp only [Int.toNat_natCast, List.getD_eq_getElem?_getD, List.getElem?_eq_getElem hi, Option.getD_some] at g0
  exact kdC_len g0
theorem right_calls (A : Option Addr) (cap : Nat) (l : List (List Int)) (w : World) (h : Kd.C (Kd.slice 3 (Kd.int .i64)) w A l.length l) (hc : l.length ≤ cap) :
    Calls Try.prog 16 #[.slice A l.length cap] w fun e w' => e = .returned (.int .i64 (if lRight l then 0 else 3)) ∧ ∃ n, w' = w.drewN n := by
  obtain ⟨k, hk⟩ := (right_ev (kdC_rows h).1 (kdC_rows h).2).rounds
  exact (clause_Right.calls k A cap l _ w h hc hk).mono fun e w' ⟨he, hd⟩ => ⟨he, hd.out⟩
end Go.Proofs.Ytphloehjcfipfaa.Cl
end

section
/-
  DERIVED: THE SHELF's CONTRACTS AT THIS DUMP, IN PLAIN WORDS (tools/lay-plain.mjs out of 'TryShelf.lean', which tools/lay-shelf.mjs wrote): THE SAME DECLARATIONS UNDER THE SAME NAMES: 'import', 'namespace', 'open', 'def', 'theorem' AND NOTHING ELSE: no command of the shelf's: FOR A HAND-IN. Each laying: the table of numbers ('.._ren') and one theorem, a field a fact of the dump's own or the kernel's comparison; each contract: ONE APPLICATION.
-/
namespace Go.Proofs
open Go.Shelf
def Try.lays122_ren : Go.Shelf.Ren := ⟨fun | 122 => 89 | 215 => 95 | n => n, fun | 3 => 3 | 4 => 4 | n => n, fun | n => n⟩
theorem Try.lays122 : Go.Proofs.Lays.n122 Try.prog Try.lays122_ren := {
  mixed := by kernel_rfl
  f122 := Try.func89.trans (congrArg some (by kernel_rfl))
  f215 := Try.func95.trans (congrArg some (by kernel_rfl))
  t3 := Try.underlying3
  a3 := Try.isAgg3
  z3 := Try.sizeOf3
  v3 := Try.zeroValue3
  t4 := Try.underlying4
  a4 := Try.isAgg4
  z4 := Try.sizeOf4
  v4 := Try.zeroValue4 }
open Go.RowKit in
/-- cmp.Compare at int: "Compare returns -1 if x is less than y, 0 if x equals y, +1 if x is greater than y.": IT RETURNS 'Lib.compareInt x y'; the world is as it was. (LAID: no walk: one application.) -/
theorem Try.cmp_Compare_int (x y : Int) (w : World) :
    Calls Try.prog 89 #[.int .i64 x, .int .i64 y] w fun e w' => e = .returned (.int .i64 (Lib.compareInt x y)) ∧ w' = w := Any.cmp_Compare_int Try.lays122 x y w
def Try.laysSlF6_f87_ren : Go.Shelf.Ren := ⟨fun | 6 => 87 | 15 => 93 | 14 => 94 | 28 => 105 | 29 => 106 | 20 => 107 | 21 => 108 | 22 => 109 | 23 => 110 | 24 => 111 | 25 => 112 | 26 => 113 | 27 => 114 | 46 => 120 | 47 => 116 | 48 => 117 | 49 => 121 | 50 => 122 | 57 => 124 | n => n, fun | 22 => 35 | 24 => 3 | 25 => 57 | 3 => 3 | 39 => 117 | 0 => 0 | 53 => 127 | 55 => 129 | 4 => 4 | 46 => 121 | 45 => 120 | 50 => 112 | 5 => 5 | 9 => 9 | 66 => 135 | 70 => 139 | 76 => 143 | 77 => 28 | n => n, fun | n => n⟩
theorem Try.laysSlF6_f87 : Go.Proofs.SlLaysF.n6 Try.prog Try.laysSlF6_f87_ren := {
  mixed := by kernel_rfl
  f6 := ⟨Try.f87.name, by decide, Try.func87.trans (congrArg some (by kernel_rfl))⟩
  f14 := ⟨Try.f94.name, by decide, Try.func94.trans (congrArg some (by kernel_rfl))⟩
  f15 := Try.func93.trans (congrArg some (by kernel_rfl))
  f20 := ⟨Try.f107.name, by decide, Try.func107.trans (congrArg some (by kernel_rfl))⟩
  f21 := ⟨Try.f108.name, by decide, Try.func108.trans (congrArg some (by kernel_rfl))⟩
  f22 := ⟨Try.f109.name, by decide, Try.func109.trans (congrArg some (by kernel_rfl))⟩
  f23 := ⟨Try.f110.name, by decide, Try.func110.trans (congrArg some (by kernel_rfl))⟩
  f24 := ⟨Try.f111.name, by decide, Try.func111.trans (congrArg some (by kernel_rfl))⟩
  f25 := ⟨Try.f112.name, by decide, Try.func112.trans (congrArg some (by kernel_rfl))⟩
  f26 := ⟨Try.f113.name, by decide, Try.func113.trans (congrArg some (by kernel_rfl))⟩
  f27 := ⟨Try.f114.name, by decide, Try.func114.trans (congrArg some (by kernel_rfl))⟩
  f28 := Try.func105.trans (congrArg some (by kernel_rfl))
  f29 := Try.func106.trans (congrArg some (by kernel_rfl))
  f46 := ⟨Try.f120.name, by decide, Try.func120.trans (congrArg some (by kernel_rfl))⟩
  f47 := Try.func116.trans (congrArg some (by kernel_rfl))
  f48 := Try.func117.trans (congrArg some (by kernel_rfl))
  f49 := ⟨Try.f121.name, by decide, Try.func121.trans (congrArg some (by kernel_rfl))⟩
  f50 := ⟨Try.f122.name, by decide, Try.func122.trans (congrArg some (by kernel_rfl))⟩
  f57 := ⟨Try.f124.name, by decide, Try.func124.trans (congrArg some (by kernel_rfl))⟩
  t0 := Try.underlying0
  a0 := Try.isAgg0
  z0 := Try.sizeOf0
  v0 := Try.zeroValue0
  t3 := Try.underlying3
  a3 := Try.isAgg3
  z3 := Try.sizeOf3
  v3 := Try.zeroValue3
  t4 := Try.underlying4
  a4 := Try.isAgg4
  z4 := Try.sizeOf4
  v4 := Try.zeroValue4
  t5 := Try.underlying5
  a5 := Try.isAgg5
  z5 := Try.sizeOf5
  v5 := Try.zeroValue5
  t9 := Try.underlying9
  a9 := Try.isAgg9
  z9 := Try.sizeOf9
  v9 := Try.zeroValue9
  t22 := Try.underlying35
  a22 := Try.isAgg35
  z22 := Try.sizeOf35
  v22 := Try.zeroValue35
  a24 := Try.isAgg3
  z24 := Try.sizeOf3
  t25 := Try.underlying57
  a25 := Try.isAgg57
  z25 := Try.sizeOf57
  v25 := Try.zeroValue57
  t39 := Try.underlying117
  a39 := Try.isAgg117
  z39 := Try.sizeOf117
  v39 := Try.zeroValue117
  t45 := Try.underlying120
  a45 := Try.isAgg120
  z45 := Try.sizeOf120
  v45 := Try.zeroValue120
  t46 := Try.underlying121
  a46 := Try.isAgg121
  z46 := Try.sizeOf121
  v46 := Try.zeroValue121
  t50 := Try.underlying112
  a50 := Try.isAgg112
  z50 := Try.sizeOf112
  v50 := Try.zeroValue112
  t53 := Try.underlying127
  a53 := Try.isAgg127
  z53 := Try.sizeOf127
  v53 := Try.zeroValue127
  t55 := Try.underlying129
  a55 := Try.isAgg129
  z55 := Try.sizeOf129
  v55 := Try.zeroValue129
  t66 := Try.underlying135
  a66 := Try.isAgg135
  z66 := Try.sizeOf135
  v66 := Try.zeroValue135
  t70 := Try.underlying139
  a70 := Try.isAgg139
  z70 := Try.sizeOf139
  v70 := Try.zeroValue139
  t76 := Try.underlying143
  a76 := Try.isAgg143
  z76 := Try.sizeOf143
  v76 := Try.zeroValue143
  t77 := Try.underlying28
  a77 := Try.isAgg28
  z77 := Try.sizeOf28
  v77 := Try.zeroValue28 }
open Go.RowKit Go.Lib Go.Sort in
/-- **slices.SortFunc, IN THE DOCUMENTATION's OWN TERMS: A PERMUTATION OF WHAT THE ROW HELD, SORTED BY 'cmp(a, b) < 0'.** Which of two equals comes first is left open ("The sort is not guaranteed to be stable"). (LAID AT THE INSTANCE 'slices.SortFunc[[]int,int]': no walk: one application.) -/
theorem Try.slices_SortFunc {α : Type} [Inhabited α] (enc : α → Value) (h1 : OneCell enc) (cf : α → α → Int) (hO : SWO (ltOf cf)) (g : Nat) (cb : Array Value) (blk off cap : Nat) (d : Array α) (w : World) (eg : ∀ args w, (callFunc g args).run Try.prog w = .ok (.enter g args) w) (hcmp : CmpLays1 Try.prog g cb enc cf blk off d.size w) (hH : Holds enc w blk off d) (hblk : blk < w.heap.size) (hsz : d.size < 4611686018427387904) :
    Calls Try.prog 87 #[.slice (some ⟨blk, off, none⟩) d.size cap, .func (.func g) #[] cb] w fun e w' =>
      e = .returned (.tuple #[]) ∧ ∃ d' n os, PermIn 0 d.size d d' ∧ SortedIn (ltOf cf) 0 d.size d' ∧ w' = sortWorld enc w blk off n d' os := Any.slices_SortFunc Try.laysSlF6_f87 enc h1 cf hO g cb blk off cap d w eg hcmp hH hblk hsz
def Try.laysSlF06_f87_ren : Go.Shelf.Ren := ⟨fun | 6 => 87 | 15 => 93 | 14 => 94 | 28 => 105 | 29 => 106 | 20 => 107 | 21 => 108 | 22 => 109 | 23 => 110 | 24 => 111 | 25 => 112 | 26 => 113 | 27 => 114 | 46 => 120 | 47 => 116 | 48 => 117 | 49 => 121 | 50 => 122 | 57 => 124 | n => n, fun | 22 => 35 | 24 => 3 | 25 => 57 | 3 => 3 | 39 => 117 | 0 => 0 | 53 => 127 | 55 => 129 | 4 => 4 | 46 => 121 | 45 => 120 | 50 => 112 | 5 => 5 | 9 => 9 | 66 => 135 | 70 => 139 | 76 => 143 | 77 => 28 | n => n, fun | n => n⟩
theorem Try.laysSlF06_f87 : Go.Proofs.SlLaysF0.n6 Try.prog Try.laysSlF06_f87_ren := {
  mixed := by kernel_rfl
  f6 := ⟨Try.f87.name, by decide, Try.func87.trans (congrArg some (by kernel_rfl))⟩
  f14 := ⟨Try.f94.name, by decide, Try.func94.trans (congrArg some (by kernel_rfl))⟩
  f15 := Try.func93.trans (congrArg some (by kernel_rfl))
  f20 := ⟨Try.f107.name, by decide, Try.func107.trans (congrArg some (by kernel_rfl))⟩
  f21 := ⟨Try.f108.name, by decide, Try.func108.trans (congrArg some (by kernel_rfl))⟩
  f22 := ⟨Try.f109.name, by decide, Try.func109.trans (congrArg some (by kernel_rfl))⟩
  f23 := ⟨Try.f110.name, by decide, Try.func110.trans (congrArg some (by kernel_rfl))⟩
  f24 := ⟨Try.f111.name, by decide, Try.func111.trans (congrArg some (by kernel_rfl))⟩
  f25 := ⟨Try.f112.name, by decide, Try.func112.trans (congrArg some (by kernel_rfl))⟩
  f26 := ⟨Try.f113.name, by decide, Try.func113.trans (congrArg some (by kernel_rfl))⟩
  f27 := ⟨Try.f114.name, by decide, Try.func114.trans (congrArg some (by kernel_rfl))⟩
  f28 := Try.func105.trans (congrArg some (by kernel_rfl))
  f29 := Try.func106.trans (congrArg some (by kernel_rfl))
  f46 := ⟨Try.f120.name, by decide, Try.func120.trans (congrArg some (by kernel_rfl))⟩
  f47 := Try.func116.trans (congrArg some (by kernel_rfl))
  f48 := Try.func117.trans (congrArg some (by kernel_rfl))
  f49 := ⟨Try.f121.name, by decide, Try.func121.trans (congrArg some (by kernel_rfl))⟩
  f50 := ⟨Try.f122.name, by decide, Try.func122.trans (congrArg some (by kernel_rfl))⟩
  f57 := ⟨Try.f124.name, by decide, Try.func124.trans (congrArg some (by kernel_rfl))⟩
  t0 := Try.underlying0
  a0 := Try.isAgg0
  z0 := Try.sizeOf0
  v0 := Try.zeroValue0
  t3 := Try.underlying3
  a3 := Try.isAgg3
  z3 := Try.sizeOf3
  v3 := Try.zeroValue3
  t4 := Try.underlying4
  a4 := Try.isAgg4
  z4 := Try.sizeOf4
  v4 := Try.zeroValue4
  t5 := Try.underlying5
  a5 := Try.isAgg5
  z5 := Try.sizeOf5
  v5 := Try.zeroValue5
  t9 := Try.underlying9
  a9 := Try.isAgg9
  z9 := Try.sizeOf9
  v9 := Try.zeroValue9
  t22 := Try.underlying35
  a22 := Try.isAgg35
  z22 := Try.sizeOf35
  v22 := Try.zeroValue35
  t25 := Try.underlying57
  a25 := Try.isAgg57
  z25 := Try.sizeOf57
  v25 := Try.zeroValue57
  t39 := Try.underlying117
  a39 := Try.isAgg117
  z39 := Try.sizeOf117
  v39 := Try.zeroValue117
  t45 := Try.underlying120
  a45 := Try.isAgg120
  z45 := Try.sizeOf120
  v45 := Try.zeroValue120
  t46 := Try.underlying121
  a46 := Try.isAgg121
  z46 := Try.sizeOf121
  v46 := Try.zeroValue121
  t50 := Try.underlying112
  a50 := Try.isAgg112
  z50 := Try.sizeOf112
  v50 := Try.zeroValue112
  t53 := Try.underlying127
  a53 := Try.isAgg127
  z53 := Try.sizeOf127
  v53 := Try.zeroValue127
  t55 := Try.underlying129
  a55 := Try.isAgg129
  z55 := Try.sizeOf129
  v55 := Try.zeroValue129
  t66 := Try.underlying135
  a66 := Try.isAgg135
  z66 := Try.sizeOf135
  v66 := Try.zeroValue135
  t70 := Try.underlying139
  a70 := Try.isAgg139
  z70 := Try.sizeOf139
  v70 := Try.zeroValue139
  t76 := Try.underlying143
  a76 := Try.isAgg143
  z76 := Try.sizeOf143
  v76 := Try.zeroValue143
  t77 := Try.underlying28
  a77 := Try.isAgg28
  z77 := Try.sizeOf28
  v77 := Try.zeroValue28 }
open Go.RowKit Go.Lib Go.Sort in
/-- **slices.SortFunc AT NO ELEMENT, A nil SLICE TOO: nothing turns.** (LAID AT THE INSTANCE 'slices.SortFunc[[]int,int]': no walk: one application.) -/
theorem Try.slices_SortFunc_none {α : Type} [Inhabited α] (p : Option Addr) (cap : Nat) (fv : Value) (w : World) :
    Calls Try.prog 87 #[.slice p 0 cap, fv] w fun e w' => e = .returned (.tuple #[]) ∧ w' = w := AnyF.slices_SortFunc_none Try.laysSlF06_f87 p cap fv w

end Go.Proofs
end

section
/- clause.sorted at ints, by 'variable': the row holds the same numbers, by their variables. -/
set_option linter.unusedVariables false
set_option linter.unusedSimpArgs false
namespace Go.Proofs.Ytphloehjcfipfaa.Cl
open Go.RowKit Go.Maps Go.Shelf Go.Lib Go.Sort Go.Proofs.YtphloehjcfipfaaW.PrintWords Go.Proofs.YtphloehjcfipfaaW.PrintLast Go.Proofs.YtphloehjcfipfaaW.PrintMore
attribute [local go_sem] max2_int min2_int max_two min_two max_three min_three max_four min_four

def vr (x : Int) : Int := mx x (wrap64 (-x))
theorem variable_any (x : Int) (w : World) : Calls Try.prog 52 #[.int .i64 x] w fun e w' => e = .returned (.int .i64 (vr x)) ∧ w' = w := by
  unfold vr
  go_enter Try.func52, Try.ntmps52
  go_wp2
  all_goals
    go_ret
    exact ⟨by simp only [mx] <;> first | (rw [if_pos (by assumption)]; rfl) | (rw [if_neg (by omega)]; rfl), rfl⟩

/-- How two literals are held against each other. -/
def cf (x y : Int) : Int := Lib.compareInt (vr x) (vr y)
set_option maxHeartbeats 1000000 in
theorem closure (x y : Int) (W : World) (B : Nat) (hB : W.cell? ⟨B, 0, none⟩ = some (.func (.func 52) #[] #[])) : Calls Try.prog 88 #[.int .i64 x, .int .i64 y, .pointer (some ⟨B, 0, none⟩)] W fun e w' => e = .returned (.int .i64 (cf x y)) ∧ ∃ q, w' = W.drewN q := by
  have hcon := Try.cmp_Compare_int (vr x) (vr y)
  show Calls _ _ _ _ fun e w' => e = .returned (.int .i64 (Lib.compareInt (vr x) (vr y))) ∧ _
  generalize Lib.compareInt (vr x) (vr y) = r at hcon ⊢
  have HCON := Lib.hid hcon
  clear hcon
  go_enter Try.func88, Try.ntmps88
  go_wp2
  go_quiet ((first
    | (go_at_call 52; exact Calls.quiet_of_same (variable_any _ _))
    | (go_at_call 89; exact Calls.quiet_of_same (HCON.out _))))
  go_wp2
  go_ret
  exact ⟨rfl, nq, rfl⟩

theorem vr_eq {x : Int} (h1 : -1048576 ≤ x) (h2 : x ≤ 1048576) : vr x = (x.natAbs : Int) := by
  have hw : wrap64 (-x) = -x := by unfold wrap64; omega
  unfold vr mx
  rw [hw]
  split <;> omega
theorem lt_cf (x y : Int) : ltOf cf x y = decide (vr x < vr y) := by
  unfold ltOf cf Lib.compareInt
  by_cases h1 : vr x < vr y
  · simp [h1]
  · by_cases h2 : vr y < vr x <;> simp [h1, h2]
theorem swo_cf : SWO (ltOf cf) where
  irrefl x := by rw [lt_cf]; simp
  trans x y z h1 h2 := by rw [lt_cf] at *; simp at *; omega
  ntrans x y z h1 h2 := by rw [lt_cf] at *; simp at *; omega

/-- What the sort leaves is the list by its variables. -/
theorem sorted_is {xs : List Int} {d' : Array Int} (ha : Apart xs) (hb : ∀ x ∈ xs, -1048576 ≤ x ∧ x ≤ 1048576) (hp : PermIn 0 xs.toArray.size xs.toArray d') (hs : SortedIn (ltOf cf) 0 xs.toArray.size d') : d'.toList = isort xs := by
  have hsz : d'.size = xs.length := by simpa using hp.1
  have hperm : d'.toList.Perm xs := by
    have h := hp.2.2
    simp only [Array.toList_extract, List.extract_eq_take_drop, List.drop_zero, Nat.sub_zero, List.size_toArray] at h
    rwa [List.take_of_length_le (by simp; omega), List.take_of_length_le (by simp)] at h
  have hap : Apart d'.toList := (List.Perm.pairwise_iff (fun h => Ne.symm h) hperm).2 ha
  refine up_unique _ _ ?_ (up_isort xs ha) fun x => by rw [mem_isort, hperm.mem_iff]
  refine List.pairwise_iff_getElem.2 fun i j hi hj hij => ?_
  have hi' : i < d'.size := by simpa using hi
  have hj' : j < d'.size := by simpa using hj
  have h1 := hs i j (Nat.zero_le _) hij (by simpa [← hsz] using hj')
  rw [lt_cf, getElem!_pos d' i hi', getElem!_pos d' j hj'] at h1
  have m1 := hb _ (hperm.mem_iff.1 (List.getElem_mem hi))
  have m2 := hb _ (hperm.mem_iff.1 (List.getElem_mem hj))
  have e1 : d'.toList[i] = d'[i] := by simp
  have e2 : d'.toList[j] = d'[j] := by simp
  rw [e1] at m1
  rw [e2] at m2
  rw [vr_eq m1.1 m1.2, vr_eq m2.1 m2.2] at h1
  have h2 := (List.pairwise_iff_getElem.1 hap) i j hi hj hij
  rw [e1, e2] at h2 ⊢
  simp at h1
  omega

set_option maxHeartbeats 1000000 in
theorem sorted_none (p : Option Addr) (cap : Nat) (W : World) :
    Calls Try.prog 71 #[.slice p 0 cap, .func (.func 52) #[] #[]] W fun e w' => e = .returned (.slice p 0 cap) ∧ W.grownBy w' none := by
  have hcon := fun fv w => Try.slices_SortFunc_none (α := Int) p cap fv w
  have HCON := Lib.hid hcon
  clear hcon
  go_enter Try.func71, Try.ntmps71
  go_wp2_with (go_at_call 87; refine (HCON.out _ _).mono ?_; rintro e w' ⟨rfl, rfl⟩)
  go_ret
  exact ⟨rfl, World.grownBy_alloc _ _ _⟩

set_option maxHeartbeats 2000000 in
theorem sorted_some {W : World} {base g cap : Nat} {cur : Array Value} {xs : List Int} (hbase : base ≤ g) (hb : W.heap[g]? = some (.cells cur 3 (0, 0))) (h1 : xs.length ≤ cap) (h2 : cap ≤ maxLen) (h3 : cur.size = cap * 1) (ht : cur.toList.take xs.length = xs.map (Value.int .i64))
    (ha : Apart xs) (hlit : Lits xs) (hl : xs.length < 4611686018427387904) :
    Calls Try.prog 71 #[.slice (some ⟨g, 0, none⟩) xs.length cap, .func (.func 52) #[] #[]] W fun e w' =>
      e = .returned (.slice (some ⟨g, 0, none⟩) xs.length cap) ∧ w'.ownsRow base 3 1 (.slice (some ⟨g, 0, none⟩) xs.length cap) xs.length ((isort xs).map (Value.int .i64)) ∧ W.grownBy w' (some g) := by
  have hglt := lt_of_block hb
  have hb1 : (W.alloc (.cells #[.func (.func 52) #[] #[]] 71)).heap[g]? = some (.cells cur 3 (0, 0)) := by
    rw [Go.RowKit.Below.heap_alloc _ _ _ hglt]; exact hb
  have hcell : (W.alloc (.cells #[.func (.func 52) #[] #[]] 71)).cell? ⟨W.heap.size, 0, none⟩ = some (.func (.func 52) #[] #[]) := by
    have : (W.alloc (.cells #[.func (.func 52) #[] #[]] 71)).heap[W.heap.size]? = some (.cells #[.func (.func 52) #[] #[]] 71 (0, 0)) := by
      show (W.heap.push _)[W.heap.size]? = _
      simp
    exact cell_of_one this
  have eg : ∀ args w, (callFunc 88 args).run Try.prog w = .ok (.enter 88 args) w := enters_of Try.func88 (by kernel_rfl) rfl
  have hcmp : CmpLays1 Try.prog 88 #[.pointer (some ⟨W.heap.size, 0, none⟩)] (Value.int .i64) cf g 0 xs.toArray.size (W.alloc (.cells #[.func (.func 52) #[] #[]] 71)) :=
    fun m os dk _ x y => (closure x y _ W.heap.size ((grownBy_sortedI dk).cell hcell (fun e => by injection e; simp at *; omega))).mono fun _ _ ⟨he, q, hq⟩ => ⟨he, q, #[], by rw [hq, grow_empty]; rfl⟩
  have hcon := Try.slices_SortFunc (Value.int .i64) (fun _ => rfl) cf swo_cf 88 #[.pointer (some ⟨W.heap.size, 0, none⟩)] g 0 cap xs.toArray (W.alloc (.cells #[.func (.func 52) #[] #[]] 71)) eg hcmp (holds_of_blockI hb1 ht) (by simp; omega) (by simpa using hl)
  have hend := fun d' n os (hp : PermIn 0 xs.toArray.size xs.toArray d') (hs : SortedIn (ltOf cf) 0 xs.toArray.size d') =>
    And.intro (ownsRow_sortedI (w := W.alloc (.cells #[.func (.func 52) #[] #[]] 71)) (n := n) (os := os) (ss := xs) (ts := d'.toList) (by simpa using hp.1) hbase hb1 h1 h2 h3)
      ((World.grownBy_alloc W (.cells #[.func (.func 52) #[] #[]] 71) (some g)).trans (grownBy_sortedI (g := g) (n := n) (os := os) d'))
  have hend2 := fun d' (hp : PermIn 0 xs.toArray.size xs.toArray d') (hs : SortedIn (ltOf cf) 0 xs.toArray.size d') => sorted_is ha (fun x hx => ⟨(hlit x hx).1, (hlit x hx).2.1⟩) hp hs
  have HEND := Lib.hid hend
  have HEND2 := Lib.hid hend2
  have HCON := Lib.hid hcon
  clear hcon hcmp hend hend2 hb hb1 hcell ha hlit ht
  go_enter Try.func71, Try.ntmps71
  go_wp2_with (go_at_call 87; refine (HCON.out).mono ?_; rintro e w' ⟨rfl, d', n, os, hp, hs, rfl⟩; have HP := Aside0.mk hp; have HS := Aside0.mk hs; clear hp hs)
  go_ret
  have h5 := HEND.out d' n os HP.out HS.out
  refine ⟨rfl, ?_, h5.2⟩
  rw [← HEND2.out d' HP.out HS.out]
  exact h5.1

/-- A row of the call's own, by its variables. -/
theorem sorted_calls {W : World} {base : Nat} {v : Value} {xs : List Int} (hown : W.ownsRow base 3 1 v xs.length (xs.map (Value.int .i64))) (ha : Apart xs) (hlit : Lits xs) (hl : xs.length < 4611686018427387904) :
    Calls Try.prog 71 #[v, .func (.func 52) #[] #[]] W fun e w' =>
      e = .returned v ∧ w'.ownsRow base 3 1 v xs.length ((isort xs).map (Value.int .i64)) ∧ W.grownBy w' v.ownBlock := by
  rcases hown.2 with ⟨rfl, h0⟩ | ⟨g, cap, cur, rfl, hbase, hb, h1, h2, h3, h4⟩
  · obtain rfl : xs = [] := List.eq_nil_of_length_eq_zero h0
    exact (sorted_none none 0 W).mono fun _ w' ⟨he, hg⟩ => ⟨he, ⟨rfl, .inl ⟨rfl, rfl⟩⟩, hg⟩
  · exact (sorted_some hbase hb h1 h2 h3 (by rwa [Nat.mul_one] at h4) ha hlit hl).mono fun _ w' h => h
end Go.Proofs.Ytphloehjcfipfaa.Cl
end

section
/- clause.Spread: the walk. -/
set_option linter.unusedVariables false
set_option linter.unusedSimpArgs false
namespace Go.Proofs.Ytphloehjcfipfaa.Cl
open Go.RowKit Go.Maps Go.Proofs.YtphloehjcfipfaaW.PrintWords Go.Proofs.YtphloehjcfipfaaW.PrintLast

theorem info3 : (Try.prog.info? 3).map (fun i => (i.zero, i.size, i.bytes)) = some (some (.int .i64 0), 1, 8) := by kernel_rfl

/-- What a call of 'Spread' comes to. -/
def SpreadPost (l : List (List Int)) (fr : List Int) (w : World) (e : Ending) (w' : World) : Prop :=
  ∃ v : Value, e = .returned (.tuple #[v, .bool (spread l fr).2]) ∧ Kd.R (Kd.int .i64) 3 w' w.heap.size (fun _ => True) v (spread l fr).1 ∧ Below w.heap.size w w'

theorem spreadPost_fail {l : List (List Int)} {fr : List Int} {w w' : World} (h : spread l fr = ([], false)) (hb : Below w.heap.size w w') : SpreadPost l fr w (.returned (.tuple #[.slice none 0 0, .bool false])) w' :=
  ⟨.slice none 0 0, by rw [h], by rw [h]; exact Kd.R_nil _ _ _ _ _, hb⟩

/-- One list as a list of lists. -/
theorem one_row {w : World} {A : Option Addr} {c : List Int} {cap : Nat} (h : Kd.C (Kd.int .i64) w A c.length c) (hcap : c.length ≤ cap) {b : Nat} {w1 : World} (hb : Below w.heap.size w w1) (hc : w1.cell? ⟨b, 0, none⟩ = some (.slice A c.length cap)) :
    Kd.C (Kd.slice 3 (Kd.int .i64)) w1 (some ⟨b, 0, none⟩) 1 [c] := by
  refine ⟨rfl, by omega, fun _ => ⟨_, rfl, fun j p hj => ?_⟩⟩
  have h0 : j = 0 ∧ p = c := by
    cases j with
    | zero => exact ⟨rfl, by simpa using hj.symm⟩
    | succ j => simp at hj
  obtain ⟨rfl, rfl⟩ := h0
  refine ⟨[.slice A p.length cap], rfl, ⟨A, cap, rfl, hcap, Kd.C_below h hb⟩, fun i u hi => ?_⟩
  cases i with
  | zero =>
    obtain rfl : u = .slice A p.length cap := by simpa using hi.symm
    rw [show 0 * (Kd.slice 3 (Kd.int .i64)).sz + 0 = 0 from rfl, add_plain]
    exact hc
  | succ i => simp at hi

theorem length_isort : ∀ xs : List Int, (isort xs).length = xs.length
  | [] => rfl
  | x :: r => by
    have h : ∀ l : List Int, (ins x l).length = l.length + 1 := by
      intro l
      induction l with
      | nil => rfl
      | cons y l ih =>
        unfold ins
        split
        · rfl
        · simp [ih]
    rw [isort, h, length_isort r, List.length_cons]
/-- What follows was given, or stands in a clause. -/
theorem der_src {l : List (List Int)} {fr : List Int} (h1 : lRight l = true) (h2 : cRight fr = true) {x : Int} (h : Der l fr x) : x ∈ fr ++ flat l :=
  h (fun x => x ∈ fr ++ flat l) (fun z hz => by simp [hz]) (fun c hc z hz _ => by
    exact List.mem_append.2 (.inr (mem_flat.2 ⟨c, hc, hz⟩)))
theorem inAt_next1 {l : List (List Int)} {k j : Nat} (h : j < (row l k).length) (x : Int) : inAt l k (j + 1) x = if x = rd (row l k) j then inAt l k j (rd (row l k) j) ++ [(k : Int)] else inAt l k j x := by
  rw [inAt_step h x, show rd (row l k) j = (row l k).getD j 0 by simp [rd]]
  by_cases e : x = (row l k).getD j 0
  · rw [if_pos e, if_pos e, e]
  · rw [if_neg e, if_neg e]
theorem total_snoc {l : List (List Int)} : ∀ {k : Nat}, k < l.length → total (l.take (k + 1)) = total (l.take k) + (row l k).length := by
  induction l with
  | nil => intro k h; simp at h
  | cons c l ih =>
    intro k h
    cases k with
    | zero => simp [total, row]
    | succ k =>
      have := ih (k := k) (by simpa using h)
      simp [total, row] at *
      omega

/-- The world in which a spreader has been made, and both lists have been looked at. -/
def spWorld (w : World) (lv : Value) (nd : Nat) (o : Obj) (nd2 : Nat) : World :=
  ((((((w.alloc (.map #[] 0)).alloc (.map #[] 0)).alloc (.map #[] 0)).alloc (.cells #[lv, .map (some w.heap.size), .map (some (w.heap.size + 1)), .map (some (w.heap.size + 1 + 1))] 98)).drewN nd).alloc o).drewN nd2
theorem heap_new (w : World) (o : Obj) : (w.alloc o).heap[w.heap.size]? = some o := by
  show (w.heap.push o)[w.heap.size]? = some o
  simp
theorem heap_old {w : World} {o o' : Obj} {k : Nat} (h : w.heap[k]? = some o') : (w.alloc o).heap[k]? = some o' := by
  rw [Below.heap_alloc _ _ _ (lt_of_block h)]; exact h
theorem size_alloc (w : World) (o : Obj) : (w.alloc o).heap.size = w.heap.size + 1 := by
  show (w.heap.push o).size = _
  simp
theorem spStart (w : World) (lv : Value) (nd : Nat) (o : Obj) (nd2 : Nat) : SpW (spWorld w lv nd o nd2) (w.heap.size + 1 + 1 + 1) lv w.heap.size (w.heap.size + 1) (w.heap.size + 1 + 1) (w.heap.size + 4) 0 (fun _ => []) [] [] ∧ Below w.heap.size w (spWorld w lv nd o nd2) ∧ w.heap.size + 5 ≤ (spWorld w lv nd o nd2).heap.size := by
  have hsz : (spWorld w lv nd o nd2).heap.size = w.heap.size + 5 := by
    show (World.alloc _ _).heap.size = _
    rw [size_alloc]
    show (World.alloc _ _).heap.size + 1 = _
    rw [size_alloc, size_alloc, size_alloc, size_alloc]
  have e1 := size_alloc w (.map #[] 0)
  have e2 : ((w.alloc (.map #[] 0)).alloc (.map #[] 0)).heap.size = w.heap.size + 1 + 1 := by rw [size_alloc, e1]
  have e3 : (((w.alloc (.map #[] 0)).alloc (.map #[] 0)).alloc (.map #[] 0)).heap.size = w.heap.size + 1 + 1 + 1 := by rw [size_alloc, e2]
  refine ⟨⟨?_, ?_, ?_, ?_, by omega, by omega, by omega⟩, ?_, by omega⟩
  · unfold SpBlk
    refine heap_old (w := World.drewN _ nd) ?_
    have h := heap_new (((w.alloc (.map #[] 0)).alloc (.map #[] 0)).alloc (.map #[] 0)) (.cells #[lv, .map (some w.heap.size), .map (some (w.heap.size + 1)), .map (some (w.heap.size + 1 + 1))] 98)
    rw [e3] at h
    exact h
  · exact (((((((HasRows.made w 3 (base := w.heap.size + 4) (by omega)).alloc _).alloc _).alloc _).drewN nd).alloc _).drewN nd2)
  · have h := IsSet.made (P := Try.prog) (kt := 3) (w.alloc (.map #[] 0))
    rw [e1] at h
    exact (((((h.alloc _).alloc _).drewN nd).alloc _).drewN nd2)
  · have h := IsSet.made (P := Try.prog) (kt := 3) ((w.alloc (.map #[] 0)).alloc (.map #[] 0))
    rw [e2] at h
    exact ((((h.alloc _).drewN nd).alloc _).drewN nd2)
  · unfold spWorld
    repeat (first | exact Below.refl _ _ | apply below_alloc | apply pw_below_drewN)

set_option maxRecDepth 100000 in
set_option maxHeartbeats 4000000 in
theorem spread_wrong1 (A : Option Addr) (cap : Nat) (l : List (List Int)) (B : Option Addr) (bcap : Nat) (fr : List Int) (w : World) (hC : Kd.C (Kd.slice 3 (Kd.int .i64)) w A l.length l) (hcap : l.length ≤ cap) (hF : Kd.C (Kd.int .i64) w B fr.length fr) (hbcap : fr.length ≤ bcap)
    (h : lRight l = false) : Calls Try.prog 53 #[.slice A l.length cap, .slice B fr.length bcap] w (SpreadPost l fr w) := by
  have HC := Aside0.mk hC
  have hpost := Lib.hid (spread_wrong (l := l) (fr := fr) (by rw [h]; rfl))
  have hcon := fun W (hb : Below w.heap.size w W) => right_calls A cap l W (Kd.C_below HC.out hb) hcap
  rw [h] at hcon
  have HCON := Lib.hid hcon
  have hmm := @run_makeMap Try.prog
  clear hC hF h hcon
  go_enter Try.func53, Try.ntmps53
  go_wp2_with (go_at_call 16; refine (HCON.out _ (by repeat (first | exact Below.refl _ _ | apply below_alloc))).mono ?_; rintro e w' ⟨rfl, nd, rfl⟩)
  go_ret2
  exact spreadPost_fail hpost.out (by repeat (first | exact Below.refl _ _ | apply below_alloc | apply pw_below_drewN))

set_option maxRecDepth 100000 in
set_option maxHeartbeats 4000000 in
theorem spread_wrong2 (A : Option Addr) (cap : Nat) (l : List (List Int)) (B : Option Addr) (bcap : Nat) (fr : List Int) (w : World) (hC : Kd.C (Kd.slice 3 (Kd.int .i64)) w A l.length l) (hcap : l.length ≤ cap) (hF : Kd.C (Kd.int .i64) w B fr.length fr) (hbcap : fr.length ≤ bcap)
    (h1 : lRight l = true) (h : cRight fr = false) : Calls Try.prog 53 #[.slice A l.length cap, .slice B fr.length bcap] w (SpreadPost l fr w) := by
  have HC := Aside0.mk hC
  have HF := Aside0.mk hF
  have hpost := Lib.hid (spread_wrong (l := l) (fr := fr) (by rw [h, Bool.and_false]))
  have hcon := fun W (hb : Below w.heap.size w W) => right_calls A cap l W (Kd.C_below HC.out hb) hcap
  rw [h1] at hcon
  have HCON := Lib.hid hcon
  have hcon2 := fun W b (hb : Below w.heap.size w W) (hc : W.cell? ⟨b, 0, none⟩ = some (.slice B fr.length bcap)) => (right_calls (some ⟨b, 0, none⟩) 1 [fr] W (one_row HF.out hbcap hb hc) (by simp))
  simp only [List.length_cons, List.length_nil, Nat.zero_add] at hcon2
  rw [show lRight [fr] = false by simp [lRight, h]] at hcon2
  have HCON2 := Lib.hid hcon2
  have hmm := @run_makeMap Try.prog
  clear hC hF h hcon hcon2 h1
  go_enter Try.func53, Try.ntmps53
  go_wp2_with fail
  refine (HCON.out _ (by repeat (first | exact Below.refl _ _ | apply below_alloc))).mono ?_
  rintro e w' ⟨rfl, nd, rfl⟩
  go_wp2_with fail
  refine (HCON2.out _ _ ?hb ?hc).mono ?_
  case hb => repeat (first | exact Below.refl _ _ | apply below_alloc | apply pw_below_drewN)
  case hc => go_simp
  rintro e w' ⟨rfl, nd2, rfl⟩
  go_wp2
  go_ret2
  exact spreadPost_fail hpost.out (by repeat (first | exact Below.refl _ _ | apply below_alloc | apply pw_below_drewN))

/-- A clause's number more, in the map: what the append and the store leave. -/
theorem in_step {wr W' w1 : World} {g bi bs bw base n k gg cap1 : Nat} {lv v : Value} {G : Int → List Int} {S W : List Int} {x : Int} (hoi : wr.ownsInts base 3 .i64 v (G x)) (hsw : SpW wr g lv bi bs bw base n G S W)
    (hgrow : W'.grownBy w1 v.ownBlock) (hsz : wr.heap.size + 1 = W'.heap.size) (hst : ∀ i, i < wr.heap.size → W'.heap[i]? = wr.heap[i]?) (e1 : W'.os = wr.os) (e2 : W'.tape = wr.tape) (e3 : W'.output = wr.output)
    (hown1 : w1.ownsRow base 3 1 (.slice (some ⟨gg, 0, none⟩) ((G x).length + 1) cap1) ((G x).length + 1) ((G x).map (Value.int .i64) ++ [.int .i64 (k : Int)])) (hat : v.ownBlock = some gg ∨ gg = wr.heap.size + 1)
    (hlk : ∀ W : World, W.heap[bi]? = wr.heap[bi]? → (Instr.lookup 96 (.map (some bi)) (.int .i64 x) false).run Try.prog W = .ok v W)
    (hback : ∀ (w1 : World) (v' : Value) (zs' : List Int), wr.grownBy w1 v.ownBlock → w1.ownsInts base 3 .i64 v' zs' → zs'.length ≤ n + 1 → (v'.ownBlock = v.ownBlock ∨ ∃ g, v'.ownBlock = some g ∧ wr.heap.size ≤ g) →
        ∃ w2, (Instr.mapUpdate 96 (.map (some bi)) (.int .i64 x) v').run Try.prog w1 = .ok () w2 ∧ HasRows Try.prog 3 w2 base bi (n + 1) (fun y => if y = x then zs' else G y) ∧ w1.grownBy w2 (some bi))
    (hvl : (G x).length ≤ n) (hk : k < 4611686018427387904 := by omega) (hb1 : bs < base := by omega) (hb2 : bw < base := by omega) (hb3 : g < base := by omega) (hb4 : bi < base := by omega) :
    ∃ w2, (Instr.mapUpdate 96 (.map (some bi)) (.int .i64 x) (.slice (some ⟨gg, 0, none⟩) ((G x).length + 1) cap1)).run Try.prog w1 = .ok () w2 ∧ w1.cell? ⟨g, 1, none⟩ = some (.map (some bi)) ∧
      (Instr.lookup 96 (.map (some bi)) (.int .i64 x) false).run Try.prog w1 = .ok v w1 ∧
      Aside0 (SpW w2 g lv bi bs bw base (n + 1) (fun y => if y = x then G x ++ [(k : Int)] else G y) S W ∧ (∀ w : World, Below w.heap.size w wr → w.heap.size ≤ bi → w.heap.size ≤ base → Below w.heap.size w w2) ∧ wr.heap.size ≤ w2.heap.size) := by
  have hgr : wr.grownBy w1 v.ownBlock := ⟨hgrow.os.trans e1, hgrow.tape.trans e2, hgrow.output.trans e3, Nat.le_trans (by omega) hgrow.size, fun i hi hn => (hgrow.block i (by omega) hn).trans (hst i hi)⟩
  have hoi1 := hoi.appended hown1 (WalkArith.wf_i64 (by omega))
  obtain ⟨w2, hr2, hrows2, hg2⟩ := hback w1 _ _ hgr hoi1 (by simp; omega) (by
    rcases hat with h | h
    · exact .inl (by rw [h]; rfl)
    · exact .inr ⟨gg, rfl, by omega⟩)
  have hrb : ∀ j, v.ownBlock = some j → base ≤ j := fun j hj => own_base hoi.1 j hj
  have hw1 : ∀ i, i < wr.heap.size → i < base → w1.heap[i]? = wr.heap[i]? := fun i hi hlt => hgr.block i hi fun e => by have := hrb i e.symm; omega
  have hw2 : ∀ i, i < wr.heap.size → i < base → i ≠ bi → w2.heap[i]? = wr.heap[i]? := fun i hi hlt hne => (hg2.block i (by have := hgr.size; omega) fun e => hne (by injection e)).trans (hw1 i hi hlt)
  have hgn : g ≠ bi := by obtain ⟨es, cl, hb⟩ := hsw.rows.block; exact hsw.blk.ne_map hb
  refine ⟨w2, hr2, (hsw.blk.at_ (hw1 g hsw.blk.lt hb3)).c1, hlk w1 (hw1 bi hsw.rows.lt hb4), ⟨⟨hsw.blk.at_ (hw2 g hsw.blk.lt hb3 hgn), hrows2, hsw.is_.at_ (hw2 bs hsw.is_.lt hb1 (Ne.symm hsw.nis)), hsw.wt.at_ (hw2 bw hsw.wt.lt hb2 (Ne.symm hsw.niw)), hsw.ne, hsw.nis, hsw.niw⟩,
    fun w hb hle hle' => (hb.grown hgr hb.size (fun j hj => Nat.le_trans hle' (hrb j hj))).grown hg2 (Nat.le_trans hb.size hgr.size) (fun j hj => by cases hj; exact hle), Nat.le_trans hgr.size hg2.size⟩⟩

set_option maxRecDepth 100000 in
set_option maxHeartbeats 8000000 in
theorem spread_right (A : Option Addr) (cap : Nat) (l : List (List Int)) (B : Option Addr) (bcap : Nat) (fr : List Int) (w : World) (hC : Kd.C (Kd.slice 3 (Kd.int .i64)) w A l.length l) (hcap : l.length ≤ cap) (hF : Kd.C (Kd.int .i64) w B fr.length fr) (hbcap : fr.length ≤ bcap)
    (h1 : lRight l = true) (h2 : cRight fr = true) (hsz : fr.length + total l < 4398046511104) (hll : l.length < 4398046511104) : Calls Try.prog 53 #[.slice A l.length cap, .slice B fr.length bcap] w (SpreadPost l fr w) := by
  have HC := Aside0.mk hC
  have HF := Aside0.mk hF
  have hcon := fun W (hb : Below w.heap.size w W) => right_calls A cap l W (Kd.C_below HC.out hb) hcap
  rw [h1] at hcon
  have HCON := Lib.hid hcon
  have hcon2 := fun W b (hb : Below w.heap.size w W) (hc : W.cell? ⟨b, 0, none⟩ = some (.slice B fr.length bcap)) => (right_calls (some ⟨b, 0, none⟩) 1 [fr] W (one_row HF.out hbcap hb hc) (by simp))
  simp only [List.length_cons, List.length_nil, Nat.zero_add] at hcon2
  rw [show lRight [fr] = true by simp [lRight, h2]] at hcon2
  have HCON2 := Lib.hid hcon2
  have H1 := Aside0.mk h1
  have H2 := Aside0.mk h2
  have hmm := @run_makeMap Try.prog
  obtain ⟨i0, hi, hz0, hz1, hz2⟩ := info_parts info3
  clear hC hF hcon hcon2 h1 h2
  go_enter Try.func53, Try.ntmps53
  go_wp2_with fail
  refine (HCON.out _ (by repeat (first | exact Below.refl _ _ | apply below_alloc))).mono ?_
  rintro e w' ⟨rfl, nd, rfl⟩
  go_wp2_with fail
  refine (HCON2.out _ _ ?hb ?hc).mono ?_
  case hb => repeat (first | exact Below.refl _ _ | apply below_alloc | apply pw_below_drewN)
  case hc => go_simp
  rintro e w' ⟨rfl, nd2, rfl⟩
  go_wp2
  show Code.wp _ _ _ _ (spWorld w (.slice A l.length cap) nd (.cells #[.slice B fr.length bcap] 35) nd2)
  obtain ⟨HST, HB, HSZ⟩ := spStart w (.slice A l.length cap) nd (.cells #[.slice B fr.length bcap] 35) nd2
  generalize spWorld w (.slice A l.length cap) nd (.cells #[.slice B fr.length bcap] 35) nd2 = W1 at HST HB HSZ ⊢
  have HST := Aside0.mk HST
  have HB := Aside0.mk HB
  have HB0 := HB
  have hcl : ∀ c ∈ l, c.length ≤ total l := fun c hc => by
    have := length_flat l
    obtain ⟨m, hm, rfl⟩ := mem_row hc
    have := total_take l m hm
    omega
  have HCL := Aside0.mk hcl
  clear hcl
  go_loopw [34] (fun v34 wr => ∃ (k n : Nat), v34 = .int .i64 k ∧ Aside0 (k ≤ l.length) ∧ Aside0 (n ≤ total (l.take k)) ∧ Aside0 (SpW wr (w.heap.size + 1 + 1 + 1) (.slice A l.length cap) w.heap.size (w.heap.size + 1) (w.heap.size + 1 + 1) (w.heap.size + 4) n (inAt l k 0) [] []) ∧ Aside0 (Below w.heap.size w wr) ∧ Aside0 (w.heap.size + 5 ≤ wr.heap.size))
    (fun i _ => l.length - (intOf i).toNat)
  case atStart => exact ⟨0, 0, rfl, ⟨Nat.zero_le _⟩, ⟨Nat.zero_le _⟩, ⟨{ HST.out with rows := HST.out.rows.ext (fun x => (inAt_zero l x).symm) }⟩, HB, ⟨HSZ⟩⟩
  case round =>
    clear HST HB HSZ
    obtain ⟨k, n, rfl, hk, hn, hsw, hb, hz⟩ := hrel
    have hk := hk.out
    by_cases hlt : k < l.length
    · obtain ⟨ad, A0, c0, e, hcell, hlc, hrow⟩ := rows_at (Kd.C_below HC.out hb.out) hlt
      cases e
      have HLC := Aside0.mk hlc
      have HROW := Aside0.mk (kdC_len hrow)
      have HROWC : Aside0 ((Kd.int .i64).C w A0 (row l k).length (row l k)) := by
        obtain ⟨ad2, A2, c2, e2, hcell2, _, hrow2⟩ := rows_at HC.out hlt
        cases e2
        have := (hb.out.cell (World.block_lt_of_cell? w _ hcell2)).trans hcell2
        rw [hcell] at this
        cases this
        exact ⟨hrow2⟩
      have hrlen := HCL.out _ (row_mem hlt)
      clear hlc
      go_wp2
      go_loopw [41] (fun v41 wr => ∃ (j n : Nat), v41 = .int .i64 j ∧ Aside0 (j ≤ (row l k).length) ∧ Aside0 (n ≤ total (l.take k) + j) ∧ Aside0 (SpW wr (w.heap.size + 1 + 1 + 1) (.slice (some ad) l.length cap) w.heap.size (w.heap.size + 1) (w.heap.size + 1 + 1) (w.heap.size + 4) n (inAt l k j) [] []) ∧ Aside0 (Below w.heap.size w wr) ∧ Aside0 (w.heap.size + 5 ≤ wr.heap.size))
        (fun i _ => (row l k).length - (intOf i).toNat)
      case atStart => exact ⟨0, n, rfl, ⟨Nat.zero_le _⟩, hn, hsw, hb, hz⟩
      case round =>
        clear hn hsw hb hz hcell hrow
        obtain ⟨j, n, rfl, hj, hn, hsw, hb, hz⟩ := hrel
        have hj := hj.out
        by_cases hltj : j < (row l k).length
        · obtain ⟨ad0, e, hcell⟩ := Kd.at_int (Kd.C_below HROWC.out hb.out) (j : Int) (by omega) (by omega)
          cases e
          rw [Int.toNat_natCast] at hcell
          have hlit := lits_of (cRight_of H1.out (row_mem hlt)) _ (rd_mem hltj)
          have hc1 := hsw.out.blk.c1
          have hnn : n < 4398046511104 := by have := hn.out; have := total_take l k hlt; omega
          obtain ⟨v, hrun, hoi, hvl, hback⟩ := hsw.out.rows.look gm (by unfold maxLen; omega) (x := rd (row l k) j) (wf_lit (by omega) (by omega))
          have HBACK := Aside0.mk hback
          have HOI := Aside0.mk hoi
          clear hback hoi
          have hlk : ∀ W : World, W.heap[w.heap.size]? = wr.heap[w.heap.size]? → (Instr.lookup 96 (.map (some w.heap.size)) (.int .i64 (rd (row l k) j)) false).run Try.prog W = .ok v W := fun W hW => hsw.out.rows.look_same gm (wf_lit (by omega) (by omega)) hrun hW
          have HLK := Aside0.mk hlk
          have hblt : w.heap.size < wr.heap.size := hsw.out.rows.lt
          have hglt := hsw.out.blk.lt
          clear hlk
          go_wp2_with fail
          refine start_ (n := 15) (S := fun w' => w'.cell? ⟨w.heap.size + 1 + 1 + 1, 1, none⟩ = some (.map (some w.heap.size)) ∧ (Instr.lookup 96 (.map (some w.heap.size)) (.int .i64 (rd (row l k) j)) false).run Try.prog w' = .ok v w') (ds := [14]) #[false, false, false, false, false, false, false, false, false, false, false, false, false, false, false] (by kernel_rfl) rfl rfl ⟨hc1, (HLK.out _ rfl)⟩ (fun hHeld => ?_)
          refine pure_ (i := 0) (N := some 45) (v := ?_) (a' := ?_) #[true, false, false, false, false, false, false, false, false, false, false, false, false, false, false] rfl rfl (by kernel_rfl) (fun _ _ _ h => h) (Or.inl ⟨by rfl, ?_⟩) ?_ ?_
          rotate_left
          · intro w'
            go_simp
            with_reducible rfl
          rotate_left
          · simp only [Act.put, List.setIfInBounds_toArray, List.set_cons_zero, List.set_cons_succ, i64_w, i32_w]
            rfl
          refine pure_ (i := 1) (N := some 46) (v := ?_) (a' := ?_) #[true, true, false, false, false, false, false, false, false, false, false, false, false, false, false] rfl rfl (by kernel_rfl) (fun _ _ _ h => h) (Or.inl ⟨by rfl, ?_⟩) ?_ ?_
          rotate_left
          · intro w'
            go_simp
            with_reducible rfl
          rotate_left
          · simp only [Act.put, List.setIfInBounds_toArray, List.set_cons_zero, List.set_cons_succ, i64_w, i32_w]
            rfl
          refine pure_ (i := 2) (N := some 47) (v := ?_) (a' := ?_) #[true, true, true, false, false, false, false, false, false, false, false, false, false, false, false] rfl rfl (by kernel_rfl) (fun _ _ _ h => h) (Or.inl ⟨by rfl, ?_⟩) ?_ ?_
          rotate_left
          · intro w'
            go_simp
            with_reducible rfl
          rotate_left
          · simp only [Act.put, List.setIfInBounds_toArray, List.set_cons_zero, List.set_cons_succ, i64_w, i32_w]
            rfl
          refine pure_ (i := 4) (N := some 49) (v := ?_) (a' := ?_) #[true, true, true, false, true, false, false, false, false, false, false, false, false, false, false] rfl rfl (by kernel_rfl) (fun _ _ _ h => h) (Or.inl ⟨by rfl, ?_⟩) ?_ ?_
          rotate_left
          · intro w'
            go_simp
            with_reducible rfl
          rotate_left
          · simp only [Act.put, List.setIfInBounds_toArray, List.set_cons_zero, List.set_cons_succ, i64_w, i32_w]
            rfl
          refine pure_ (i := 5) (N := some 50) (v := ?_) (a' := ?_) #[true, true, true, false, true, true, false, false, false, false, false, false, false, false, false] rfl rfl (by kernel_rfl) (fun _ _ _ h => h) (Or.inl ⟨by rfl, ?_⟩) ?_ ?_
          rotate_left
          · intro w'
            go_simp
            with_reducible rfl
          rotate_left
          · simp only [Act.put, List.setIfInBounds_toArray, List.set_cons_zero, List.set_cons_succ, i64_w, i32_w]
            rfl
          refine pure_ (i := 6) (N := some 51) (v := ?_) (a' := ?_) #[true, true, true, false, true, true, true, false, false, false, false, false, false, false, false] rfl rfl (by kernel_rfl) (fun _ _ _ h => h) (Or.inl ⟨by rfl, ?_⟩) ?_ ?_
          rotate_left
          · intro w'
            go_simp
            with_reducible rfl
          rotate_left
          · simp only [Act.put, List.setIfInBounds_toArray, List.set_cons_zero, List.set_cons_succ, i64_w, i32_w]
            rfl
          refine pure_ (i := 7) (N := some 52) (v := ?_) (a' := ?_) #[true, true, true, false, true, true, true, true, false, false, false, false, false, false, false] rfl rfl (by kernel_rfl) (fun _ _ _ h => h) (Or.inl ⟨by rfl, ?_⟩) ?_ ?_
          rotate_left
          · intro w'
            go_simp
            with_reducible rfl
          rotate_left
          · simp only [Act.put, List.setIfInBounds_toArray, List.set_cons_zero, List.set_cons_succ, i64_w, i32_w]
            rfl
          refine pure_ (i := 9) (N := some 54) (v := ?_) (a' := ?_) #[true, true, true, false, true, true, true, true, false, true, false, false, false, false, false] rfl rfl (by kernel_rfl) (fun _ _ _ h => h) (Or.inl ⟨by rfl, ?_⟩) ?_ ?_
          rotate_left
          · intro w'
            go_simp
            with_reducible rfl
          rotate_left
          · simp only [Act.put, List.setIfInBounds_toArray, List.set_cons_zero, List.set_cons_succ, i64_w, i32_w]
            rfl
          refine pure_ (i := 11) (N := some 56) (v := ?_) (a' := ?_) #[true, true, true, false, true, true, true, true, false, true, false, true, false, false, false] rfl rfl (by kernel_rfl) (fun _ _ _ h => h) (Or.inl ⟨by rfl, ?_⟩) ?_ ?_
          rotate_left
          · intro w'
            go_simp
            with_reducible rfl
          rotate_left
          · simp only [Act.put, List.setIfInBounds_toArray, List.set_cons_zero, List.set_cons_succ, i64_w, i32_w]
            rfl
          refine take_ (i := 3) (N := some 48) (v := ?_) (a' := ?_) #[true, true, true, true, true, true, true, true, false, true, false, true, false, false, false] rfl rfl (by kernel_rfl) (fun _ _ _ h => h) (Or.inl ⟨by rfl, ?_⟩) hHeld ?_ ?_
          rotate_left
          · rintro w' ⟨s0, s1⟩
            go_simp
            with_reducible rfl
          rotate_left
          · simp only [Act.put, List.setIfInBounds_toArray, List.set_cons_zero, List.set_cons_succ, i64_w, i32_w]
            rfl
          refine take_ (i := 8) (N := some 53) (v := ?_) (a' := ?_) #[true, true, true, true, true, true, true, true, true, true, false, true, false, false, false] rfl rfl (by kernel_rfl) (fun _ _ _ h => h) (Or.inl ⟨by rfl, ?_⟩) hHeld ?_ ?_
          rotate_left
          · rintro w' ⟨s0, s1⟩
            go_simp
            with_reducible rfl
          rotate_left
          · simp only [Act.put, List.setIfInBounds_toArray, List.set_cons_zero, List.set_cons_succ, i64_w, i32_w]
            rfl
          refine take_ (i := 10) (N := some 55) (v := ?_) (a' := ?_) #[true, true, true, true, true, true, true, true, true, true, true, true, false, false, false] rfl rfl (by kernel_rfl) (fun _ _ _ h => h) (Or.inl ⟨by rfl, ?_⟩) hHeld ?_ ?_
          rotate_left
          · rintro w' ⟨s0, s1⟩
            go_simp
            with_reducible rfl
          rotate_left
          · simp only [Act.put, List.setIfInBounds_toArray, List.set_cons_zero, List.set_cons_succ, i64_w, i32_w]
            rfl
          refine one_ (i := 12) (N := some 57) #[true, true, true, true, true, true, true, true, true, true, true, true, true, false, false] rfl rfl (by kernel_rfl) (by decide) (fun K hK => ?_)
          refine value_ (w1 := ?_) (v := ?_) (by rfl) rfl ?_ ?_
          rotate_left 2
          · go_simp
            constructor
            · rfl
            · rfl
          refine hK.out _ _ ⟨(by go_keep), (HLK.out _ (Below.heap_alloc wr _ _ hblt))⟩ (fun hHeld => ?_)
          clear hK K
          refine norm_ (a' := ?_) ?_ ?_
          rotate_left
          · show Act.put _ (some 57) _ = _
            simp only [Act.put, List.setIfInBounds_toArray, List.set_cons_zero, List.set_cons_succ, i64_w, i32_w]
            rfl
          refine one_ (i := 13) (N := some 58) #[true, true, true, true, true, true, true, true, true, true, true, true, true, true, false] rfl rfl (by kernel_rfl) (by decide) (fun K hK => ?_)
          refine step_append_lies _ (by rfl) _ _ _ (by rfl) (w.heap.size + 4) 3 i0 _ 1 8 Try.underlying35 hi hz0 hz1 hz2 rfl (by omega) v (inAt l k j (rd (row l k) j)).length ((inAt l k j (rd (row l k) j)).map (Value.int .i64)) (by rfl) (by exact own_move HOI.out.1 (fun q hq => Below.heap_alloc wr _ q (own_lt HOI.out.1 q hq))) ⟨wr.heap.size, 0, none⟩ 1 1 [.int .i64 k] (by rfl) (by rfl) (World.news_of_block (cs := #[.int .i64 k]) (t := 3) (fr := (0, 0)) (by exact heap_alloc_new wr _)) (by simp [Value.oneCell']) (by omega) (by unfold maxLen; omega) (by omega) (by simp; omega) (wr.heap.size + 1) (by simp) ?_
          intro gg cap1 w1 hown1 hgrow hat hltg
          obtain ⟨w2, hr2, hc1w, hlk1, HQ⟩ := in_step HOI.out hsw.out hgrow (by exact (size_alloc wr _).symm) (fun i hi => by exact Below.heap_alloc wr _ i hi) rfl rfl rfl hown1 hat HLK.out HBACK.out hvl
          clear hown1 hgrow hat hltg
          refine hK.out _ _ ⟨hc1w, hlk1⟩ (fun hHeld => ?_)
          clear hK K
          refine norm_ (a' := ?_) ?_ ?_
          rotate_left
          · show Act.put _ (some 58) _ = _
            simp only [Act.put, List.setIfInBounds_toArray, List.set_cons_zero, List.set_cons_succ, i64_w, i32_w]
            rfl
          refine last_ (i := 14) (N := none) #[true, true, true, true, true, true, true, true, true, true, true, true, true, true, true] rfl rfl (by kernel_rfl) (by decide) (fun K hK => ?_)
          refine skip_ (w1 := ?_) (by rfl) rfl ?_ ?_
          rotate_left
          · go_simp
            rfl
          refine hK.out _ _ ?_
          clear hK K
          refine done_ (by kernel_rfl) ?_
          go_wp2
          go_roundw
          case rel => exact ⟨j + 1, n + 1, by go_num, ⟨hltj⟩, ⟨by have := hn.out; omega⟩, ⟨{ HQ.out.1 with rows := HQ.out.1.rows.ext (fun x => (inAt_next1 hltj x).symm) }⟩, ⟨HQ.out.2.1 w hb.out (Nat.le_refl _) (by omega)⟩, ⟨Nat.le_trans hz.out HQ.out.2.2⟩⟩
          case measure => simp [intOf]; omega
        · have ej : j = (row l k).length := by omega
          subst ej
          go_wp2
          go_roundw
          case rel => exact ⟨k + 1, n, by go_num, ⟨hlt⟩, ⟨by have := hn.out; have := total_snoc hlt; omega⟩, ⟨{ hsw.out with rows := hsw.out.rows.ext (fun x => inAt_next hlt x) }⟩, hb, hz⟩
          case measure => simp [intOf]; omega
    · have ek : k = l.length := by omega
      subst ek
      have hn := hn.out
      rw [List.take_length] at hn
      have hsw0 := Aside0.mk ({ hsw.out with rows := hsw.out.rows.ext (fun x => inAt_end l x) } : SpW _ _ _ _ _ _ _ _ (inOf l) _ _)
      clear hsw
      have hgo := HB0.out
      go_wp2
      go_loopw [63] (fun v63 wr => ∃ (i : Nat) (S W : List Int), v63 = .int .i64 i ∧ Aside0 (i ≤ fr.length) ∧ Aside0 (RInv l fr S W [] i 0) ∧ Aside0 (SpW wr (w.heap.size + 1 + 1 + 1) (.slice A l.length cap) w.heap.size (w.heap.size + 1) (w.heap.size + 1 + 1) (w.heap.size + 4) n (inOf l) S W) ∧ Aside0 (Below w.heap.size w wr))
        (fun i _ => fr.length - (intOf i).toNat)
      case atStart => exact ⟨0, [], [], rfl, ⟨Nat.zero_le _⟩, ⟨RInv.start l fr⟩, hsw0, hb⟩
      case round =>
        clear hsw0 hb hz
        obtain ⟨i, S, W, rfl, hi, hri, hsw, hb⟩ := hrel
        have hi := hi.out
        by_cases hlti : i < fr.length
        · obtain ⟨ad0, e, hcell⟩ := Kd.at_int (Kd.C_below HF.out hb.out) (i : Int) (by omega) (by omega)
          cases e
          rw [Int.toNat_natCast] at hcell
          have hlit := lits_of H2.out _ (rd_mem hlti)
          have hrd : fr.getD i 0 = rd fr i := by simp [rd]
          have HRD := Lib.hid hrd
          have hs1 := hri.out.size
          have hs2 := hri.out.sizeW
          clear hrd
          cases hno : S.contains (-(rd fr i)) with
          | true =>
            have hcon := hold_no hsw.out.blk hsw.out.is_ hlit.1 hlit.2.1 hno
            have HC3 := Lib.hid hcon
            have hend := Lib.hid (spread_none H1.out H2.out (hri.out.clash (rd_mem hlti) (by simpa using hno)))
            clear hcon hno hlit
            go_wp2_with (go_at_call 68; refine (HC3.out).mono ?_; rintro e w' ⟨rfl, rfl⟩)
            go_ret2
            exact spreadPost_fail hend.out hb.out
          | false =>
            cases hold_ : S.contains (rd fr i) with
            | true =>
              have hcon := hold_old hsw.out.blk hsw.out.is_ hlit.1 hlit.2.1 hno hold_
              have HC3 := Lib.hid hcon
              have HR := Aside0.mk (hri.out.held_old (by rw [HRD.out]; simpa using hold_))
              clear hcon hno hlit hold_
              go_wp2_with (go_at_call 68; refine (HC3.out).mono ?_; rintro e w' ⟨rfl, rfl⟩)
              go_roundw
              case rel => exact ⟨i + 1, S, W, by go_num, ⟨hlti⟩, HR, hsw, hb⟩
              case measure => simp [intOf]; omega
            | false =>
              have hnS : rd fr i ∉ S := by simpa using hold_
              have hcon := hold_new hsw.out.blk hsw.out.is_ hsw.out.wt hsw.out.ne (by omega) (by omega) hlit.1 hlit.2.1 hno hold_ (by simpa using fun h => hnS (hri.out.sub _ h))
              have HC3 := Lib.hid hcon
              have HR := Aside0.mk ((hri.out.more (Der.of_from (rd_mem hlti)) hlit.2.2 hnS (by simpa using hno) ⟨hlit.1, hlit.2.1⟩ (.inl (rd_mem hlti))).held_old (by rw [HRD.out]; simp))
              clear hcon hno hlit hold_ hnS
              go_wp2_with (go_at_call 68; refine (HC3.out).mono ?_; rintro e w' ⟨rfl, hS', hW', hf'⟩; have HQ := Aside0.mk (And.intro hS' (And.intro hW' hf')); clear hS' hW' hf')
              go_roundw
              case rel => exact ⟨i + 1, _, _, by go_num, ⟨hlti⟩, HR, ⟨hsw.out.turn HQ.out.1 HQ.out.2.1 (fun j hj h1 h2 _ => HQ.out.2.2.block j hj (fun h => by rcases h with h | h; exact h1 h; exact h2 h))⟩, ⟨HQ.out.2.2.below hb.out hb.out.size (fun j hj => by rcases hj with rfl | rfl <;> omega)⟩⟩
              case measure => simp [intOf]; omega
        · have ei : i = fr.length := by omega
          subst ei
          go_wp2
          go_loopw [74] (fun v74 wr => ∃ (k : Nat) (S W : List Int), v74 = .int .i64 k ∧ Aside0 (k ≤ l.length) ∧ Aside0 (RInv l fr S W [] fr.length k) ∧ Aside0 (SpW wr (w.heap.size + 1 + 1 + 1) (.slice A l.length cap) w.heap.size (w.heap.size + 1) (w.heap.size + 1 + 1) (w.heap.size + 4) n (inOf l) S W) ∧ Aside0 (Below w.heap.size w wr))
            (fun i _ => l.length - (intOf i).toNat)
          case atStart => exact ⟨0, S, W, rfl, ⟨Nat.zero_le _⟩, hri, hsw, hb⟩
          case round =>
            clear hri hsw hb
            obtain ⟨k, S, W, rfl, hk, hri, hsw, hb⟩ := hrel
            have hk := hk.out
            by_cases hltk : k < l.length
            · obtain ⟨ad, A0, c0, e, hcell, hlc, hrow⟩ := rows_at (Kd.C_below HC.out hb.out) hltk
              cases e
              have hrm := row_mem hltk
              have hlits := lits_of (cRight_of H1.out hrm)
              have hcl := HCL.out _ hrm
              have hs1 := hri.out.size
              have hs2 := hri.out.sizeW
              have h0s : ∀ z ∈ row l k, z ≠ 0 := fun z hz => (hlits z hz).2.2
              cases hask : askLoop S 0 (row l k) with
              | none =>
                have HC3 := Lib.hid (ask_c_none hsw.out.blk hsw.out.is_ hsw.out.wt hsw.out.ne (by omega) (by omega) hri.out.sub hlits hrow hlc (by omega) hask)
                have HR := Aside0.mk (hri.out.asked (ask_none h0s hask))
                clear hlits hcl h0s hrow hask hs1 hs2
                go_wp2_with (go_at_call 69; refine (HC3.out).mono ?_; rintro e w' ⟨rfl, rfl⟩)
                go_roundw
                case rel => exact ⟨k + 1, S, W, by go_num, ⟨hltk⟩, HR, hsw, hb⟩
                case measure => simp [intOf]; omega
              | some z =>
                by_cases hz0 : z = 0
                · subst hz0
                  have HC3 := Lib.hid (ask_c_zero hsw.out.blk hsw.out.is_ hsw.out.wt hsw.out.ne (by omega) (by omega) hri.out.sub hlits hrow hlc (by omega) hask)
                  have hend := Lib.hid (spread_none H1.out H2.out (hri.out.fails hrm (ask_zero h0s hask)))
                  clear hlits hcl h0s hrow hask hs1 hs2
                  go_wp2_with (go_at_call 69; refine (HC3.out).mono ?_; rintro e w' ⟨rfl, rfl⟩)
                  go_ret2
                  exact spreadPost_fail hend.out hb.out
                · obtain ⟨z1, z2, z3, z4⟩ := ask_one h0s hask hz0
                  have hzb := hlits z z1
                  have HC3 := Lib.hid (ask_c_one hsw.out.blk hsw.out.is_ hsw.out.wt hsw.out.ne (by omega) (by omega) hri.out.sub hlits hrow hlc (by omega) hask hz0)
                  have HR := Aside0.mk ((hri.out.more (hri.out.unit hrm z1 z4) hz0 z2 z3 ⟨hzb.1, hzb.2.1⟩ (.inr ⟨_, hrm, z1⟩)).asked (.inl ⟨z, z1, by simp⟩))
                  clear hlits hcl h0s hrow hask hs1 hs2 z1 z2 z3 z4 hz0 hzb
                  go_wp2_with (go_at_call 69; refine (HC3.out).mono ?_; rintro e w' ⟨rfl, hS', hW', hf'⟩; have HQ := Aside0.mk (And.intro hS' (And.intro hW' hf')); clear hS' hW' hf')
                  go_roundw
                  case rel => exact ⟨k + 1, _, _, by go_num, ⟨hltk⟩, HR, ⟨hsw.out.turn HQ.out.1 HQ.out.2.1 (fun j hj h1 h2 _ => HQ.out.2.2.block j hj (fun h => by rcases h with h | h; exact h1 h; exact h2 h))⟩, ⟨HQ.out.2.2.below hb.out hb.out.size (fun j hj => by rcases hj with rfl | rfl <;> omega)⟩⟩
                  case measure => simp [intOf]; omega
            · have ek : k = l.length := by omega
              subst ek
              have hn1 : n < 4611686018427387904 := by omega
              have hrun := run_calls hsw.out hn1 hri.out HC.out hcap hb.out (by omega) (by omega) H1.out (by omega) (by omega) (fun c hc => by have := HCL.out c hc; omega)
              by_cases hfail : Fails l fr
              · have HC3 := Lib.hid (hrun.mono fun e w' hp => And.intro ((hp.2.resolve_right fun h => h.1 hfail).2) (hp.1.below hb.out hb.out.size (fun j hj => by rcases hj with rfl | rfl <;> omega)))
                have hend := Lib.hid (spread_none H1.out H2.out hfail)
                clear hrun hfail
                go_wp2_with (go_at_call 70; refine (HC3.out).mono ?_; rintro e w' ⟨rfl, hb'⟩; have HBB := Aside0.mk hb'; clear hb')
                go_ret2
                exact spreadPost_fail hend.out HBB.out
              · have HC3 := Lib.hid (hrun.mono fun e w' hp => And.intro ((hp.2.resolve_left fun h => hfail h.1).2.1) (And.intro ((hp.2.resolve_left fun h => hfail h.1).2.2) (And.intro hp.1 (hp.1.below hb.out hb.out.size (fun j hj => by rcases hj with rfl | rfl <;> omega)))))
                have HF0 := Lib.hid hfail
                clear hrun hfail
                go_wp2_with (first
                  | (go_at_call 70; refine (HC3.out).mono ?_; rintro e w5 ⟨rfl, hS5, hf5, hb5⟩; have HS5 := Aside0.mk hS5; have HF5 := Aside0.mk hf5; have HB5 := Aside0.mk hb5; clear hS5 hf5 hb5; obtain ⟨S5, hs5⟩ := HS5.out; have HS5' := Aside0.mk hs5; have hg5 := hsw.out.g_ne; have hc2 : w5.cell? ⟨w.heap.size + 1 + 1 + 1, 2, none⟩ = some (.map (some (w.heap.size + 1))) := (hsw.out.blk.at_ (HF5.out.block _ hsw.out.blk.lt (fun h => by rcases h with h | h; exact hg5.1 h; exact hg5.2 h))).c2; clear hs5 hg5)
                  | (at_range; refine set_range im rfl _ rfl rfl HS5'.out.1 HS5'.out.2.1 (fun x hx => wf_lit (HS5'.out.2.2.2.1 x hx).1 (HS5'.out.2.2.2.1 x hx).2.1) ?_; intro w6 cnt hgo hgr hs6; have HGO := Aside0.mk hgo; have HB6 := Aside0.mk (HB5.out.grown hgr HB5.out.size (by simp)); clear hgo hgr)
                  | go_in)
                go_frame
                have hSz : S5.length < 4398046511104 := by
                  have h := length_le_of_sub S5 (fr ++ flat l) HS5'.out.2.2.1 fun x hx => der_src H1.out H2.out ((HS5'.out.2.2.2.2 x).1 hx)
                  rw [List.length_append, length_flat] at h
                  omega
                clear hc2
                go_loopw [15] (fun v15 wr => ∃ (xs left : List Int) (cnt : Nat), Aside0 (wr.ownsRow w.heap.size 3 1 v15 xs.length (xs.map (Value.int .i64))) ∧ Aside0 (Going Try.prog 3 wr (w.heap.size + 1) w5.heap.size S5 left cnt) ∧ Aside0 ((xs ++ left).Perm S5) ∧ Aside0 (Below w.heap.size w wr))
                  (fun _ w' => w'.rangeLeft (w.heap.size + 1) w5.heap.size)
                case atStart => exact ⟨[], S5, cnt, ⟨own_nil _ _ _ _⟩, HGO, ⟨List.Perm.refl _⟩, HB6⟩
                case round =>
                  obtain ⟨xs, left, cnt, hown, hgo, hperm, hb⟩ := hrel
                  have hlen : xs.length + left.length = S5.length := by have := hperm.out.length_eq; simpa using this
                  go_wp2_with (first
                    | (at_next; refine set_next im rfl _ rfl rfl hgo.out ?_ ?_)
                    | go_in)
                  · intro hleft
                    subst hleft
                    have hp : xs.Perm S5 := by have := hperm.out; rwa [List.append_nil] at this
                    have hax : Apart xs := (List.Perm.pairwise_iff (fun h => Ne.symm h) hp).2 HS5'.out.2.2.1
                    have hcon := sorted_calls hown.out hax (fun x hx => HS5'.out.2.2.2.1 x (hp.mem_iff.1 hx)) (by omega)
                    have hres := spread_some H1.out H2.out HF0.out (up_isort xs hax) (fun x => by rw [mem_isort, hp.mem_iff]; exact HS5'.out.2.2.2.2 x)
                    have HCO := Lib.hid (hcon.mono fun e w' hq => And.intro hq.1 (And.intro (show Kd.R (Kd.int .i64) 3 w' w.heap.size (fun _ => True) _ (isort xs) from Kd.R_of_own (h1 := fun _ => rfl) (by rw [length_isort]; exact hq.2.1) (fun _ _ => trivial)) (hb.out.grown hq.2.2 hb.out.size (fun j hj => own_base hown.out j hj))))
                    have HRES := Lib.hid hres
                    clear hcon hres hax hp
                    go_wp2_with (go_at_call 71; refine (HCO.out).mono ?_; rintro e w' ⟨rfl, hR, hB⟩; have HRR := Aside0.mk hR; have HBB := Aside0.mk hB; clear hR hB)
                    go_ret2
                    exact ⟨u15, (by rw [HRES.out]; rfl), (by rw [HRES.out]; exact HRR.out), HBB.out⟩
                  · intro x c w7 cnt7 hxl hxw hgo7 hlt7 hg7 hs7 hen
                    have hrnew : w.heap.size ≤ w5.heap.size := HB5.out.size
                    have HG7 := Aside0.mk hgo7
                    have HXL := Aside0.mk hxl
                    have HXW := Aside0.mk hxw
                    have HB7 := Aside0.mk (hb.out.grown hg7 hb.out.size (fun j hj => by cases hj; exact hrnew))
                    obtain ⟨since, seen, cc, hit⟩ := hgo.out.iter
                    have HO7 := Aside0.mk (own_move hown.out (w1 := w7) fun j hj => by
                      obtain ⟨cells, hcj⟩ := own_typed hown.out j hj
                      refine hg7.block j (lt_of_block hcj) fun e => ?_
                      cases e
                      rw [hit] at hcj
                      cases hcj)
                    have hperm7 : ((xs ++ [x]) ++ left.erase x).Perm S5 := by
                      refine List.Perm.trans ?_ hperm.out
                      rw [List.append_assoc]
                      exact List.Perm.append_left _ (List.perm_cons_erase hxl).symm
                    have HP7 := Aside0.mk hperm7
                    have hpos : 0 < left.length := List.length_pos_of_mem hxl
                    have hcnt : cnt7 < cnt := hlt7
                    have hleq := Lib.hid hgo.out.left_eq
                    clear hgo7 hxl hxw hg7 hit hperm7 hs7
                    go_wp2_with (first
                      | (at_builtin; refine print_append_num (w0 := w) w.heap.size rfl _ _ 35 3 .i64 8 rfl Try.underlying35 info3 (by omega) u15 xs x rfl rfl HO7.out HB7.out HB7.out.size (by omega) ?_; intro v8 w8 hown8 hb8 hg8 hat8; have HO8 := Aside0.mk hown8; have HB8 := Aside0.mk hb8; have HG8 := Aside0.mk hg8; clear hown8 hb8 hg8 hat8)
                      | go_in)
                    have HGO8 : Aside0 (Going Try.prog 3 w8 (w.heap.size + 1) w5.heap.size S5 (left.erase x) cnt7) := by
                      refine ⟨HG7.out.kept HG8.out (fun e => ?_) (fun e => ?_)⟩
                      · obtain ⟨cells, hcj⟩ := own_typed HO7.out _ e.symm
                        exact isMap_ne HG7.out.set _ _ _ hcj
                      · obtain ⟨cells, hcj⟩ := own_typed HO7.out _ e.symm
                        obtain ⟨_, _, _, hit7⟩ := HG7.out.iter
                        rw [hit7] at hcj
                        cases hcj
                    go_roundw
                    case rel => exact ⟨xs ++ [x], left.erase x, cnt7, by simpa [nums] using HO8, HGO8, HP7, HB8⟩
                    case measure => rw [HGO8.out.left_eq, hleq.out]; exact hcnt

/-- Spread, of whatever lists that aren't beyond all measure. -/
theorem spread_calls (A : Option Addr) (cap : Nat) (l : List (List Int)) (B : Option Addr) (bcap : Nat) (fr : List Int) (w : World) (hC : Kd.C (Kd.slice 3 (Kd.int .i64)) w A l.length l) (hcap : l.length ≤ cap) (hF : Kd.C (Kd.int .i64) w B fr.length fr) (hbcap : fr.length ≤ bcap)
    (hsz : fr.length + total l < 4398046511104) (hll : l.length < 4398046511104) : Calls Try.prog 53 #[.slice A l.length cap, .slice B fr.length bcap] w (SpreadPost l fr w) := by
  cases h1 : lRight l with
  | false => exact spread_wrong1 A cap l B bcap fr w hC hcap hF hbcap h1
  | true =>
    cases h2 : cRight fr with
    | false => exact spread_wrong2 A cap l B bcap fr w hC hcap hF hbcap h1 h2
    | true => exact spread_right A cap l B bcap fr w hC hcap hF hbcap h1 h2 hsz hll
end Go.Proofs.Ytphloehjcfipfaa.Cl
end

section
/- clause.Spread, for the printed callers. -/
set_option linter.unusedVariables false
namespace Go.Proofs.Ytphloehjcfipfaa.X
open Go.RowKit Go.Proofs.YtphloehjcfipfaaW.PrintWords Go.Proofs.Ytphloehjcfipfaa.Cl

/-- What it answers, where the lists aren't beyond all measure. -/
def clause_Spread.f (l0 : List (List Int)) (l1 : List Int) : Option (List Int × Bool) := if l1.length + total l0 < 4398046511104 ∧ l0.length < 4398046511104 then some (spread l0 l1) else none
theorem clause_Spread.calls (A0 : Option Addr) (c0 : Nat) (l0 : List (List Int)) (A1 : Option Addr) (c1 : Nat) (l1 : List Int) (r1 : List Int) (r2 : Bool) (w : World) (hr0 : Kd.C (Kd.slice 3 (Kd.int .i64)) w A0 l0.length l0) (hc0 : l0.length ≤ c0) (hr1 : Kd.C (Kd.int .i64) w A1 l1.length l1) (hc1 : l1.length ≤ c1) (h : clause_Spread.f l0 l1 = some (r1, r2)) :
    Calls Try.prog 53 #[.slice A0 l0.length c0, .slice A1 l1.length c1] w fun e w' => ∃ v0_ : Value, e = .returned (.tuple #[v0_, .bool r2]) ∧ Kd.R (Kd.int .i64) 3 w' w.heap.size (fun _ => True) v0_ r1 ∧ Below w.heap.size w w' := by
  unfold clause_Spread.f at h
  split at h
  · rename_i hs
    have e := Option.some.inj h
    refine (spread_calls A0 c0 l0 A1 c1 l1 w hr0 hc0 hr1 hc1 hs.1 hs.2).mono fun e' w' hp => ?_
    unfold SpreadPost at hp
    rw [e] at hp
    exact hp
  · cases h
end Go.Proofs.Ytphloehjcfipfaa.X
end

section
-- Lines printed by a program of the session's own (wip/pr.py over the kit's print.py); Lean checks them.
namespace Go.Proofs.Ytphloehjcfipfaa.X
open Go.RowKit Go.Proofs.YtphloehjcfipfaaW.PrintWords Go.Proofs.YtphloehjcfipfaaW.PrintLast Go.Proofs.YtphloehjcfipfaaW.PrintMore
attribute [local go_sem] max2_int min2_int max_two min_two max_three min_three max_four min_four   -- for this text's walks alone
set_option linter.unusedVariables false
set_option linter.unusedSimpArgs false

/-! ### proof_follows: function 33 -/
def proof_follows.l0 : Nat → List (List Int) → List Int → List Int → Int → Int → Option (Bool)
  | 0, _, _, _, _, _ => none
  | k + 1, x0, x5, x13, x14, x15 => if x15 < x14 then (if 0 ≤ x15 then (if x15 < (x13.length : Int) then (if x15 < (x5.length : Int) then (proof_follows.l0 k x0 (x5.set (x15 : Int).toNat (wrap64 (-(rd x13 x15)))) x13 x14 (wrap64 (x15 + 1))) else (none)) else (none)) else (none)) else ((clause_Spread.f x0 x5).bind fun bt109 => (some (!bt109.2)))
def proof_follows.f (k : Nat) (l0 : List (List Int)) (l1 : List Int) : Option (Bool) := if 0 ≤ (l1.length : Int) then (if ((l1.length : Int) : Int).toNat ≤ 35184372088832 then (proof_follows.l0 k l0 (List.replicate ((l1.length : Int) : Int).toNat 0) l1 (l1.length : Int) 0) else (none)) else (none)
theorem proof_follows.mono_l : ∀ k, (∀ y0 y1 y2 y3 y4, LeO (proof_follows.l0 k y0 y1 y2 y3 y4) (proof_follows.l0 (k + 1) y0 y1 y2 y3 y4))
  | 0 => fun _ _ _ _ _ r h => by simp [proof_follows.l0] at h
  | k + 1 => by
    have ih0 := proof_follows.mono_l k
    · intro y0 y1 y2 y3 y4
      unfold proof_follows.l0
      repeat' first
      | (with_reducible exact ih0 _ _ _ _ _)
      | (with_reducible exact LeO.refl _)
      | (with_reducible exact LeO.none _)
      | (with_reducible refine LeO.ite ?_ ?_)
      | (with_reducible refine LeO.bind ?_ (fun _ => ?_))
      | exact ih0 _ _ _ _ _
      | exact LeO.none _
      | refine LeO.ite ?_ ?_
      | refine LeO.bind ?_ (fun _ => ?_)
theorem proof_follows.mono : ∀ a0 a1 k, LeO (proof_follows.f k a0 a1) (proof_follows.f (k + 1) a0 a1) := by
  intro a0 a1 k
  have ih0 := proof_follows.mono_l k
  unfold proof_follows.f
  repeat' first
      | (with_reducible exact ih0 _ _ _ _ _)
      | (with_reducible exact LeO.refl _)
      | (with_reducible exact LeO.none _)
      | (with_reducible refine LeO.ite ?_ ?_)
      | (with_reducible refine LeO.bind ?_ (fun _ => ?_))
      | exact ih0 _ _ _ _ _
      | exact LeO.none _
      | refine LeO.ite ?_ ?_
      | refine LeO.bind ?_ (fun _ => ?_)
set_option maxHeartbeats 8000000 in
set_option maxRecDepth 100000 in
theorem proof_follows.calls (k : Nat) (A0 : Option Addr) (c0 : Nat) (l0 : List (List Int)) (A1 : Option Addr) (c1 : Nat) (l1 : List Int) (r : Bool) (w : World) (hr0 : Kd.C (Kd.slice 3 (Kd.int .i64)) w A0 l0.length l0) (hc0 : l0.length ≤ c0) (hr1 : Kd.C (Kd.int .i64) w A1 l1.length l1) (hc1 : l1.length ≤ c1) (h : proof_follows.f k l0 l1 = some r) :
    Calls Try.prog 33 #[.slice A0 l0.length c0, .slice A1 l1.length c1] w fun e w' => e = .returned (.bool r) ∧ Below w.heap.size w w' := by
  have HR0 := Aside0.mk hr0
  have HC0 := Aside0.mk hc0
  clear hr0 hc0
  have HR1 := Aside0.mk hr1
  have HC1 := Aside0.mk hc1
  clear hr1 hc1
  have HB := Aside0.mk (Below.refl w.heap.size w)
  have H : (if 0 ≤ (l1.length : Int) then (if ((l1.length : Int) : Int).toNat ≤ 35184372088832 then (proof_follows.l0 k l0 (List.replicate ((l1.length : Int) : Int).toNat 0) l1 (l1.length : Int) 0) else (none)) else (none)) = some r := h
  clear h
  by_cases c3 : 0 ≤ (l1.length : Int)
  · rw [if_pos c3] at H
    have c3b0 := eq_true c3
    have c3b1 : decide (0 ≤ (l1.length : Int)) = true := decide_eq_true c3
    clear c3
    by_cases c4 : ((l1.length : Int) : Int).toNat ≤ 35184372088832
    · rw [if_pos c4] at H
      have c4b0 := eq_true c4
      have c4b1 : decide (((l1.length : Int) : Int).toNat ≤ 35184372088832) = true := decide_eq_true c4
      clear c4
      obtain ⟨y104, hy104⟩ : ∃ y_ : List Int, y_ = (List.replicate ((l1.length : Int) : Int).toNat 0) := ⟨_, rfl⟩
      replace H : (proof_follows.l0 k l0 y104 l1 (l1.length : Int) 0) = some r := by first | (rw [hy104]; with_reducible exact H) | (have H2_ := (Option.bind_some _ _).symm.trans H; rw [hy104]; with_reducible exact H2_) | (have H2_ := (Option.bind_some _ _).symm.trans H; with_reducible exact H2_) | with_reducible exact H | (rw [hy104]; exact H) | exact H
      have Ny104 := Aside0.mk hy104
      clear hy104
      have H' := Aside0.mk H
      clear H
      go_enter Try.func33, Try.ntmps33
      go_wp2_with (first | ((with_reducible refine gate_dst (N := 12) rfl ?_); refine Kd.R_make (Kd.int .i64) _ 3 rfl (N := 12) rfl 35 _ _ rfl (l1.length : Int) rfl rfl Try.underlying35 (.int .i64 0) 8 info3 rfl (by decide) (by omega) 0 (ok := fun _ => True) (okp := fun _ => True) rfl (fun _ hk => hk) trivial (of_decide_eq_true (by first | (with_reducible assumption) | assumption)) (Nat.le_trans (Nat.mul_le_mul_right _ (of_decide_eq_true (by first | (with_reducible assumption) | assumption) : (l1.length : Int).toNat ≤ 35184372088832)) (by omega)) (Below.refl _ _) (Nat.le_refl _) ?_; intro v105 w5 ho6 hb hg_ hnew_; clear hg_ hnew_; (first | rw [← Ny104.out] at ho6 | (simp only [Int.reduceToNat] at ho6; rw [← Ny104.out] at ho6)); have n0_ := Aside0.mk (Kd.R_lower ho6 (below_size (by repeat (first | (with_reducible first | exact HB.out | apply below_alloc | apply pw_below_drewN | apply below_drew1) | exact HB.out)))); have n1_ := Aside0.mk (below_step (by repeat (first | (with_reducible first | exact HB.out | apply below_alloc | apply pw_below_drewN | apply below_drew1) | exact HB.out)) hb); clear HB; have HO106 := n0_; have HB := n1_; clear n0_ n1_; clear hb ho6))
      go_loopg [15] k (fun kq v15 w' => ∃ (x5_1 : List Int) (x15_1 : Int), v15 = .int .i64 x15_1 ∧ Aside0 (proof_follows.l0 kq l0 x5_1 l1 (l1.length : Int) x15_1 = some r) ∧ Aside0 (kq ≤ k) ∧ Aside0 (Kd.R (Kd.int .i64) 3 w' w.heap.size (fun _ => True) v105 x5_1) ∧ Aside0 (Below w.heap.size w w'))
      case atStart => exact ⟨(y104), (0), (by first | rfl | (simp; done) | (simp [*]; done)), H', ⟨Nat.le_refl _⟩, ⟨by (with_reducible repeat (first | apply Kd.R_alloc | apply Kd.R_drewN | apply Kd.R_drew)); exact HO106.out⟩, ⟨by repeat (first | (with_reducible first | exact HB.out | apply below_alloc | apply pw_below_drewN | apply below_drew1) | exact HB.out)⟩⟩
      case round =>
        clear H'
        try clear c1
        try clear p2
        try clear c3
        try clear c3b0
        try clear c3b1
        try clear c4
        try clear c4b0
        try clear c4b1
        obtain ⟨x5_1, x15_1, rfl, HA, HK1, HO_5, HB⟩ := hrel
        cases gk with
        | zero => exact absurd HA.out (by simp [proof_follows.l0])
        | succ k1 =>
          have H := HA.out
          clear HA
          simp only [proof_follows.l0] at H
          by_cases c7 : x15_1 < (l1.length : Int)
          · rw [if_pos c7] at H
            have c7b0 : decide (x15_1 < (l1.length : Int)) = true := decide_eq_true c7
            clear c7
            by_cases c8 : 0 ≤ x15_1
            · rw [if_pos c8] at H
              have c8b0 : decide (0 ≤ x15_1) = true := decide_eq_true c8
              clear c8
              by_cases c9 : x15_1 < (l1.length : Int)
              · rw [if_pos c9] at H
                have c9b0 : decide (x15_1 < (l1.length : Int)) = true := decide_eq_true c9
                clear c9
                by_cases c10 : x15_1 < (x5_1.length : Int)
                · rw [if_pos c10] at H
                  have c10b0 : decide (x15_1 < (x5_1.length : Int)) = true := decide_eq_true c10
                  clear c10
                  obtain ⟨y108, hy108⟩ : ∃ y_ : List Int, y_ = (x5_1.set (x15_1 : Int).toNat (wrap64 (-(rd l1 x15_1)))) := ⟨_, rfl⟩
                  replace H : (proof_follows.l0 k1 l0 y108 l1 (l1.length : Int) (wrap64 (x15_1 + 1))) = some r := by first | (rw [hy108]; with_reducible exact H) | (have H2_ := (Option.bind_some _ _).symm.trans H; rw [hy108]; with_reducible exact H2_) | (have H2_ := (Option.bind_some _ _).symm.trans H; with_reducible exact H2_) | with_reducible exact H | (rw [hy108]; exact H) | exact H
                  have Ny108 := Aside0.mk hy108
                  clear hy108
                  have H' := Aside0.mk H
                  clear H
                  have p107 : 0 ≤ (x15_1 : Int) := of_decide_eq_true (by first | (with_reducible assumption) | assumption)
                  have q107 : x15_1 < (l1.length : Int) := of_decide_eq_true (by first | (with_reducible assumption) | assumption)
                  obtain ⟨ad107, e107, hx107_0⟩ := Kd.at_int HR1.out x15_1 p107 q107
                  cases e107
                  replace hx107_0 := (HB.out.cell (World.block_lt_of_cell? w _ hx107_0)).trans hx107_0
                  replace p107 := eq_true p107
                  replace q107 := eq_true q107
                  have p11 : 0 ≤ (x15_1 : Int) := of_decide_eq_true (by first | (with_reducible assumption) | assumption)
                  have q11 : (x15_1 : Int) < ((x5_1.length : Int) : Int) := of_decide_eq_true (by first | (with_reducible assumption) | assumption)
                  obtain ⟨go11, co11, eo11, gb11, gl11, cl11, HG11⟩ := Kd.R_form HO_5.out (by omega)
                  (first | cases eo11 | (injection eo11 with ea_ en_ ec_; (first | subst ea_ | (injection ea_ with ea_; subst ea_)); subst ec_; clear en_))
                  have GB11 := Aside0.mk gb11
                  have GG11 := Aside0.mk HG11
                  clear gb11 gl11 HG11
                  obtain ⟨hx11_0, hf11_0⟩ := Kd.R_celln 0 HO_5.out (x15_1 : Int) p11 q11
                  replace p11 := eq_true p11
                  replace q11 := eq_true q11
                  have HP12 := Kd.R_putg HO_5.out (x15_1 : Int) (wrap64 (-(rd l1 x15_1)))
                  go_wp2_with (first | ((with_reducible refine gate_store (t := 3) (p := 24) rfl ?_); refine store_event (t := 3) (p := 24) (v := ?vo_w13) (w1 := (wr.setCell ⟨go11, (x15_1 : Int).toNat, none⟩ (.int .i64 (wrap64 (-(rd l1 x15_1)))))) ?hg ?ho ?hn ?hr ?_; (case ho => rfl); (case hg => rfl); (case hn => rfl); (case hr => first | (go_simp; done) | (go_simp; rfl)); intro w13 hw; have hg : wr.grownBy w13 (some go11) := (by rw [hw]; exact HP12.2); have hp_ : Kd.R (Kd.int .i64) 3 w13 w.heap.size (fun _ => True) (.slice (some ⟨go11, 0, none⟩) x5_1.length co11) y108 := (by rw [hw, Ny108.out]; exact HP12.1); clear HP12; have n0_ := Aside0.mk (hp_); have n1_ := Aside0.mk ((by rw [hw]; exact below_set (HB.out) GB11.out : Below w.heap.size w w13)); clear HO_5; clear HB; have HO_5 := n0_; have HB := n1_; clear n0_ n1_; clear hg hw hp_))
                  go_roundg k1
                  case measure => have := HK1.out; omega
                  case rel => exact ⟨(y108), (wrap64 (x15_1 + 1)), (by first | rfl | (simp; done) | (simp [*]; done)), H', ⟨by have := HK1.out; omega⟩, ⟨by (with_reducible repeat (first | apply Kd.R_alloc | apply Kd.R_drewN | apply Kd.R_drew)); exact HO_5.out⟩, ⟨by repeat (first | (with_reducible first | exact HB.out | apply below_alloc | apply pw_below_drewN | apply below_drew1) | exact HB.out)⟩⟩
                · rw [if_neg c10] at H
                  exact absurd H (by simp)
              · rw [if_neg c9] at H
                exact absurd H (by simp)
            · rw [if_neg c8] at H
              exact absurd H (by simp)
          · rw [if_neg c7] at H
            have c7b0 : decide (x15_1 < (l1.length : Int)) = false := decide_eq_false c7
            clear c7
            replace H := Option.bind_eq_some_iff.mp H
            obtain ⟨⟨t109, t110⟩, A140, H⟩ := H
            replace H : (some (!t110)) = some r := H
            have A14 := Aside0.mk A140
            clear A140
            obtain rfl := Option.some.inj H
            obtain ⟨Ao15, co15, eo15⟩ := Kd.R_slice HO_5.out
            subst eo15
            go_wp2_with (first | ((with_reducible refine gate_callee (f := 53) rfl ?_); refine goesL_ (some 29) rfl rfl Try.func53 (by kernel_rfl) rfl #[.slice A0 l0.length c0, .slice Ao15 x5_1.length co15] rfl (by (try simp only [List.map_toArray, List.map_cons, List.map_nil]); first | done | rfl | (simp only [List.length_drop, List.length_take]; rfl)) ?_; (with_reducible refine (clause_Spread.calls _ _ l0 _ _ x5_1 t109 t110 _ ?side1 ?side2 ?side3 ?side4 A14.out).mono ?_); (case side1 => repeat (first | exact (Kd.C_below HR0.out HB.out) | (with_reducible refine Kd.C_alloc ?_ _) | (with_reducible refine Kd.C_drewN ?_ _) | (with_reducible refine Kd.C_drew ?_))); (case side2 => exact HC0.out); (case side3 => repeat (first | exact (Kd.R_reads' HO_5.out).2.2 | (with_reducible refine Kd.C_alloc ?_ _) | (with_reducible refine Kd.C_drewN ?_ _) | (with_reducible refine Kd.C_drew ?_))); (case side4 => exact (Kd.R_reads' HO_5.out).2.1); rintro e w16 ⟨v111, rfl, ho0, hb⟩; refine ⟨_, rfl, ?_⟩; have n0_ := Aside0.mk (Kd.R_elder' (by (with_reducible repeat (first | apply Kd.R_alloc | apply Kd.R_drewN | apply Kd.R_drew)); exact HO_5.out) (Kd.R_base ho0) hb); have n1_ := Aside0.mk (Kd.R_lower (Kd.R_new' ho0 (Kd.R_lt (by (with_reducible repeat (first | apply Kd.R_alloc | apply Kd.R_drewN | apply Kd.R_drew)); exact HO_5.out))) (below_size (by repeat (first | (with_reducible first | exact HB.out | apply below_alloc | apply pw_below_drewN | apply below_drew1) | exact HB.out)))); have n2_ := Aside0.mk (below_step (by repeat (first | (with_reducible first | exact HB.out | apply below_alloc | apply pw_below_drewN | apply below_drew1) | exact HB.out)) hb); clear HO_5; clear HB; have HO_5 := n0_; have HO112 := n1_; have HB := n2_; clear n0_ n1_ n2_; (try clear hb); (try clear hb2); (try clear hk); (try clear hi); (try clear ho0)))
            go_ret
            exact ⟨by first | rfl | (simp [errW_none, errW_some] <;> rfl) | (simp [*, errW_none, errW_some] <;> rfl), by repeat (first | (with_reducible first | exact HB.out | apply below_alloc | apply pw_below_drewN | apply below_drew1) | exact HB.out)⟩
    · rw [if_neg c4] at H
      exact absurd H (by simp)
  · rw [if_neg c3] at H
    exact absurd H (by simp)

-- NOT PRINTED: function 72 (slices_Grow_int_int)

-- NOT PRINTED: function 54 (slices_Concat_int_int)

-- NOT PRINTED: function 34 (proof_joined)

-- NOT PRINTED: function 39 (slices_IndexFunc_int_int_39)

-- NOT PRINTED: function 35 (slices_ContainsFunc_int_int_35)

/-! ### proof_empty: function 36 -/
def proof_empty.f (l0 : List Int) : Option (Bool) := some ((l0.length : Int) == 0)
set_option maxHeartbeats 8000000 in
set_option maxRecDepth 100000 in
theorem proof_empty.calls (A0 : Option Addr) (c0 : Nat) (l0 : List Int) (r : Bool) (w : World) (hr0 : Kd.C (Kd.int .i64) w A0 l0.length l0) (hc0 : l0.length ≤ c0) (h : proof_empty.f l0 = some r) :
    Calls Try.prog 36 #[.slice A0 l0.length c0] w fun e w' => e = .returned (.bool r) ∧ Drawn0 w w' := by
  have HR0 := Aside0.mk hr0
  have HC0 := Aside0.mk hc0
  clear hr0 hc0
  have H : (some ((l0.length : Int) == 0)) = some r := h
  clear h
  obtain rfl := Option.some.inj H
  go_enter Try.func36, Try.ntmps36
  go_wp2
  go_ret
  exact ⟨by first | rfl | (simp; done) | (simp [*]; done), by repeat (first | exact Drawn0.refl _ | apply Drawn0.step)⟩

end Go.Proofs.Ytphloehjcfipfaa.X
end

section
/- proof.Check: the plain law, and what 'follows' tells. -/
set_option linter.unusedVariables false
set_option linter.unusedSimpArgs false
namespace Go.Proofs.Ytphloehjcfipfaa.Cl
open Go.RowKit Go.Proofs.YtphloehjcfipfaaW.PrintWords Go.Proofs.YtphloehjcfipfaaW.PrintMore
open Go.Proofs.Ytphloehjcfipfaa.X

def opp (c : List Int) : List Int := c.map (fun x => -x)
def followsB (l : List (List Int)) (c : List Int) : Bool := !(spread l (opp c)).2
def checkGo (l p : List (List Int)) : List (List Int) → Int × Int
  | [] => if p.any List.isEmpty then (0, 0) else (11, (p.length : Int))
  | c :: r => if cRight c then (if followsB (l ++ p.take (p.length - (r.length + 1))) c then checkGo l p r else (14, ((p.length - (r.length + 1) : Nat) : Int))) else (3, ((p.length - (r.length + 1) : Nat) : Int))
def check (l p : List (List Int)) : Int × Int := if lRight l then checkGo l p p else (3, 0)

theorem wrap_neg {x : Int} (h1 : -1048576 ≤ x) (h2 : x ≤ 1048576) : wrap64 (-x) = -x := by unfold wrap64; omega
theorem lit_bounds {c : List Int} (h : cRight c = true) {x : Int} (hx : x ∈ c) : -1048576 ≤ x ∧ x ≤ 1048576 ∧ x ≠ 0 := by
  have := List.all_eq_true.1 h x hx
  simp [litOk] at this
  omega
/-- So far the opposites stand. -/
def half (c : List Int) (i : Nat) : List Int := opp (c.take i) ++ List.replicate (c.length - i) 0
theorem half_length (c : List Int) {i : Nat} (h : i ≤ c.length) : (half c i).length = c.length := by
  simp only [half, opp, List.length_append, List.length_map, List.length_take, List.length_replicate]
  omega
theorem half_zero (c : List Int) : half c 0 = List.replicate c.length 0 := by simp [half, opp]
theorem half_end (c : List Int) : half c c.length = opp c := by simp [half]
theorem half_set {c : List Int} {i : Nat} (h : i < c.length) : (half c i).set i (-c[i]) = half c (i + 1) := by
  have e1 : (opp (c.take i)).length = i := by simp [opp]; omega
  have e2 : c.length - i = (c.length - (i + 1)) + 1 := by omega
  have e3 : opp (c.take (i + 1)) = opp (c.take i) ++ [-c[i]] := by
    rw [List.take_succ_eq_append_getElem h]
    unfold opp
    rw [List.map_append, List.map_cons, List.map_nil]
  simp only [half]
  rw [List.set_append_right _ _ (by omega), e1, Nat.sub_self, e2, List.replicate_succ, List.set_cons_zero, e3, List.append_assoc, List.singleton_append]
theorem follows_ev {l : List (List Int)} {c : List Int} (hc : cRight c = true) (hs : c.length + total l < 4398046511104) (hl : l.length < 4398046511104) : Ev (fun k => proof_follows.f k l c) (followsB l c) := by
  have hopp : (opp c).length = c.length := by simp [opp]
  have hend : (clause_Spread.f l (opp c)).bind (fun bt109 => (some (!bt109.2))) = some (followsB l c) := by
    unfold clause_Spread.f
    rw [if_pos ⟨by omega, hl⟩]
    rfl
  have loop : ∀ d i : Nat, i ≤ c.length → c.length - i = d → Ev (fun k => proof_follows.l0 k l (half c i) c (c.length : Int) (i : Int)) (followsB l c) := by
    intro d
    induction d with
    | zero =>
      intro i hi hd
      have e : i = c.length := by omega
      subst e
      refine Ev.step (f := fun _ => some (followsB l c)) (fun k => ?_) (Ev.now _)
      simp only [proof_follows.l0]
      rw [if_neg (by omega), half_end]
      exact hend
    | succ d ih =>
      intro i hi hd
      have hlt : i < c.length := by omega
      have hx := lit_bounds hc (List.getElem_mem hlt)
      refine Ev.step (f := fun k => proof_follows.l0 k l (half c (i + 1)) c (c.length : Int) ((i + 1 : Nat) : Int)) (fun k => ?_) (ih (i + 1) hlt (by omega))
      simp only [proof_follows.l0]
      rw [if_pos (by omega), if_pos (by omega), if_pos (by omega), if_pos (by rw [half_length c hi]; omega), rd_at hlt, wrap_neg hx.1 hx.2.1, Int.toNat_natCast, half_set hlt, wrap_up (by omega) (by omega)]
      rfl
  refine Ev.congr (f := fun k => proof_follows.l0 k l (half c 0) c (c.length : Int) 0) (fun k => ?_) (loop c.length 0 (Nat.zero_le _) rfl)
  simp only [proof_follows.f]
  rw [if_pos (by omega), Int.toNat_natCast, if_pos (by omega), half_zero]

/-- The call of 'follows'. -/
theorem follows_calls (A : Option Addr) (cap : Nat) (l : List (List Int)) (B : Option Addr) (bcap : Nat) (c : List Int) (w : World) (hC : Kd.C (Kd.slice 3 (Kd.int .i64)) w A l.length l) (hcap : l.length ≤ cap) (hF : Kd.C (Kd.int .i64) w B c.length c) (hbcap : c.length ≤ bcap)
    (hc : cRight c = true) (hs : c.length + total l < 4398046511104) (hl : l.length < 4398046511104) : Calls Try.prog 33 #[.slice A l.length cap, .slice B c.length bcap] w fun e w' => e = .returned (.bool (followsB l c)) ∧ Below w.heap.size w w' := by
  obtain ⟨k, hk⟩ := (follows_ev hc hs hl).rounds
  exact proof_follows.calls k A cap l B bcap c _ w hC hcap hF hbcap hk
end Go.Proofs.Ytphloehjcfipfaa.Cl
end

section
/- slices.Concat and slices.Grow at lists of clauses: one list behind the other, in new memory. -/
set_option linter.unusedVariables false
set_option linter.unusedSimpArgs false
namespace Go.Proofs.Ytphloehjcfipfaa.Cl
open Go.RowKit Go.Proofs.YtphloehjcfipfaaW.PrintWords Go.Proofs.YtphloehjcfipfaaW.PrintLast Go.Proofs.YtphloehjcfipfaaW.PrintMore

theorem info35 : (Try.prog.info? 35).map (fun i => (i.zero, i.size, i.bytes)) = some (some (.slice none 0 0), 1, 24) := by kernel_rfl
/-- A list of clauses, as it lies in memory. -/
abbrev KR : Kd (List Int) := Kd.slice 3 (Kd.int .i64)
abbrev KRR : Kd (List (List Int)) := Kd.slice 35 KR

set_option maxHeartbeats 1000000 in
theorem grow_zero (w : World) : Calls Try.prog 72 #[.slice none 0 0, .int .i64 0] w fun e w' => e = .returned (.slice none 0 0) ∧ w' = w := by
  go_enter Try.func72, Try.ntmps72
  go_wp2
  go_ret
  exact ⟨rfl, rfl⟩

set_option maxRecDepth 100000 in
set_option maxHeartbeats 1000000 in
theorem grow_some (n : Nat) (w : World) (hn : 0 < n) (hl : n * 24 ≤ 140737488355328) : Calls Try.prog 72 #[.slice none 0 0, .int .i64 n] w fun e w' => ∃ v, e = .returned v ∧ Kd.N KR 35 w' w.heap.size (fun _ => True) v [] ∧ Below w.heap.size w w' := by
  have hb1 : decide ((n : Int) > 0) = true := by simp; omega
  have hb2 : decide ((n : Int) < 0) = false := by simp
  obtain ⟨i0, hi0, _, hsz0, _⟩ := info_parts info35
  have hcut := fun (A : Option Addr) (n c : Nat) (hc : n ≤ c) => cut_to (P := Try.prog) 22 35 .i64 Try.underlying22 hi0 A n c 0 (Int.le_refl _) (by omega) hc
  have HCUT := Lib.hid hcut
  clear hcut
  have hcut0 : ∀ w, (Instr.slice 22 (.slice none 0 0) none (some (.int .i64 0)) none).run Try.prog w = .ok (.slice none 0 0) w := fun w => by kernel_rfl
  go_enter Try.func72, Try.ntmps72
  go_wp2_with (first
    | (at_builtin; refine Kd.N_append_zeros KR (w0 := w) w.heap.size rfl _ _ 22 3 35 (.slice none 0 0) 24 rfl Try.underlying22 Try.underlying3 info35 rfl (by decide) (by omega) (.slice none 0 0) [] [] (n : Int) (fun _ => True) rfl rfl ?hz (fun _ _ => trivial) (Kd.N_nil _ _ _ _ _) (by omega) (Below.refl _ _) (Nat.le_refl _) (by simp; omega) ?_; rotate_left 1; intro v1 w1 hN hB hg hat; simp only [List.nil_append, Int.toNat_natCast] at hN; obtain ⟨A1, c1, hv, hle, _⟩ := Kd.N_reads hN; rw [List.length_replicate] at hv hle; subst hv; have hcut := HCUT.out A1 n c1 hle w1; have HN := Aside0.mk hN; have HB := Aside0.mk hB; clear hN hB hg hat)
    | go_in)
  · go_ret
    have h0 := Kd.N_take (m := 0) (xs := List.replicate n ([] : List Int)) HN.out (Nat.zero_le _)
    exact ⟨_, rfl, by simpa using h0, HB.out⟩
  · exact fun W' _ => ⟨none, 0, rfl, Nat.le_refl _, Kd.C_nil _ _⟩

/-- Room for so many. -/
theorem grow_calls (n : Nat) (w : World) (hl : n * 24 ≤ 140737488355328) : Calls Try.prog 72 #[.slice none 0 0, .int .i64 n] w fun e w' => ∃ v, e = .returned v ∧ Kd.N KR 35 w' w.heap.size (fun _ => True) v [] ∧ Below w.heap.size w w' := by
  rcases Nat.eq_zero_or_pos n with rfl | hn
  · exact (grow_zero w).mono fun e w' ⟨he, hw⟩ => ⟨_, he, Kd.N_nil _ _ _ _ _, by rw [hw]; exact Below.refl _ _⟩
  · exact grow_some n w hn hl

/-- Lists one behind the other. -/
def cat (ss : List (List (List Int))) : List (List Int) := ss.foldr (· ++ ·) []
theorem cat_take {ss : List (List (List Int))} {i : Nat} (h : i < ss.length) : cat (ss.take (i + 1)) = cat (ss.take i) ++ ss[i] := by
  have : ∀ (xs : List (List (List Int))) (y : List (List Int)), cat (xs ++ [y]) = cat xs ++ y := by
    intro xs
    induction xs with
    | nil => intro y; simp [cat]
    | cons x xs ih =>
      intro y
      have := ih y
      simp only [cat, List.foldr_append, List.foldr_cons, List.cons_append] at *
      rw [this, List.append_assoc]
  rw [List.take_succ_eq_append_getElem h, this]
theorem rowsAt {w : World} {A : Option Addr} {n : Nat} {ss : List (List (List Int))} (h : Kd.C KRR w A n ss) {i : Nat} (hi : i < ss.length) :
    ∃ ad A0 c0, A = some ad ∧ w.cell? (ad.add i) = some (.slice A0 ss[i].length c0) ∧ ss[i].length ≤ c0 ∧ KR.C w A0 ss[i].length ss[i] := by
  have hn : i < n := by have := h.1; omega
  obtain ⟨ad, c, e, _, hK, hc0⟩ := Kd.C_get h ([] : List (List Int)) (i : Int) (by omega) (by omega)
  simp only [Int.toNat_natCast, List.getD_eq_getElem?_getD, List.getElem?_eq_getElem hi, Option.getD_some] at hK hc0
  obtain ⟨A0, c0, rfl, l0, g0⟩ := hK
  exact ⟨ad, A0, c0, e, by have hq := hc0 0 _ rfl; rwa [Nat.add_zero, show (i * KRR.sz) = i from Nat.mul_one i] at hq, l0, g0⟩

set_option maxRecDepth 100000 in
set_option maxHeartbeats 2000000 in
theorem concat_calls (A : Option Addr) (cap : Nat) (ss : List (List (List Int))) (w : World) (hC : Kd.C KRR w A ss.length ss) (hcap : ss.length ≤ cap) (hl : (cat ss).length * 24 ≤ 140737488355328) :
    Calls Try.prog 54 #[.slice A ss.length cap] w fun e w' => ∃ v, e = .returned v ∧ Kd.N KR 35 w' w.heap.size (fun _ => True) v (cat ss) ∧ Below w.heap.size w w' := by
  have HC := Aside0.mk hC
  have hlen : ss.length ≤ 9223372036854775807 := by have h1 := hC.1; have h2 := hC.2.1; omega
  have hmono : ∀ i, i ≤ ss.length → (cat (ss.take i)).length ≤ (cat ss).length := fun i hi => by
    have : cat ss = cat (ss.take i) ++ cat (ss.drop i) := by
      have h2 : ∀ xs ys : List (List (List Int)), cat (xs ++ ys) = cat xs ++ cat ys := by
        intro xs ys
        induction xs with
        | nil => simp [cat]
        | cons x xs ih => simp only [cat, List.cons_append, List.foldr_cons] at *; rw [ih, List.append_assoc]
      rw [← h2, List.take_append_drop]
    rw [this, List.length_append]
    omega
  have HM := Aside0.mk hmono
  clear hC hmono
  go_enter Try.func54, Try.ntmps54
  go_wp2
  go_loop [3, 11] (fun v3 v11 => ∃ i : Nat, v11 = .int .i64 i ∧ Aside0 (i ≤ ss.length) ∧ v3 = .int .i64 ((cat (ss.take i)).length : Int)) (fun _ i => ss.length - (intOf i).toNat)
  case atStart => exact ⟨0, rfl, ⟨Nat.zero_le _⟩, rfl⟩
  case round =>
    obtain ⟨i, rfl, hi, rfl⟩ := hrel
    have hi := hi.out
    have hm := HM.out i hi
    by_cases hlt : i < ss.length
    · obtain ⟨ad, A0, c0, e, hcell, hlc, hrow⟩ := rowsAt HC.out hlt
      cases e
      have hm1 := HM.out (i + 1) hlt
      have hcat := cat_take hlt
      have hlc1 : (cat (ss.take (i + 1))).length = (cat (ss.take i)).length + ss[i].length := by rw [hcat, List.length_append]
      have HL := Lib.hid hlc1
      rw [hlc1] at hm1
      have hneg : decide (((cat (ss.take i)).length : Int) + (ss[i].length : Int) < 0) = false := by simp; omega
      clear hcat hlc1 hrow
      go_wp2
      go_round
      case rel => exact ⟨i + 1, by go_num, ⟨hlt⟩, by rw [HL.out]; go_num⟩
      case measure => simp [intOf]; omega
    · have ei : i = ss.length := by omega
      subst ei
      have hgrow := grow_calls (cat ss).length w hl
      have HG := Lib.hid hgrow
      clear hgrow
      go_wp2_with (go_at_call 72; refine (HG.out).mono ?_; rintro e w1 ⟨v1, rfl, hN, hB⟩; have HN := Aside0.mk hN; have HB := Aside0.mk hB; clear hN hB)
      go_loopw [6, 27] (fun v6 v27 wr => ∃ i : Nat, v27 = .int .i64 i ∧ Aside0 (i ≤ ss.length) ∧ Aside0 (Kd.N KR 35 wr w.heap.size (fun _ => True) v6 (cat (ss.take i))) ∧ Aside0 (Below w.heap.size w wr)) (fun _ i _ => ss.length - (intOf i).toNat)
      case atStart => exact ⟨0, rfl, ⟨Nat.zero_le _⟩, HN, HB⟩
      case round =>
        clear HN HB
        obtain ⟨i, rfl, hi, hN, hB⟩ := hrel
        have hi := hi.out
        by_cases hlt : i < ss.length
        · obtain ⟨ad, A0, c0, e, hcell, hlc, hrow⟩ := rowsAt (Kd.C_below HC.out hB.out) hlt
          cases e
          have hm1 := HM.out (i + 1) hlt
          rw [cat_take hlt, List.length_append] at hm1
          have hF : Kd.F KR wr (fun k => k < w.heap.size) A0 ss[i].length ss[i] := by
            obtain ⟨ad2, A2, c2, e2, hcell2, _, hrow2⟩ := rowsAt HC.out hlt
            cases e2
            have := (hB.out.cell (World.block_lt_of_cell? w _ hcell2)).trans hcell2
            rw [hcell] at this
            cases this
            exact Kd.F_below (Kd.C_F (Kd.heap_slice 3 (Kd.heap_int .i64)) hrow2) hB.out
          have HF := Aside0.mk hF
          have HCT := Lib.hid (cat_take hlt)
          clear hF hrow
          go_wp2_with (first
            | (at_builtin; refine Kd.N_append_rows KR (w0 := w) w.heap.size rfl _ _ 22 35 (.slice none 0 0) 24 rfl Try.underlying22 info35 rfl (by decide) (by omega) u6 (cat (ss.take i)) ss[i] A0 ss[i].length c0 (fun _ => True) (fun k => k < w.heap.size) rfl rfl hN.out HF.out (fun k hk => ⟨trivial, fun e => by have := Kd.N_base hN.out k e.symm; omega⟩) (fun _ _ => trivial) hB.out hB.out.size (by omega) ?_; intro v8 w8 hN8 hB8 hg8 hat8; have HN8 := Aside0.mk hN8; have HB8 := Aside0.mk hB8; clear hN8 hB8 hg8 hat8)
            | go_in)
          go_roundw
          case rel => exact ⟨i + 1, by go_num, ⟨hlt⟩, ⟨by rw [HCT.out]; exact HN8.out⟩, HB8⟩
          case measure => simp [intOf]; omega
        · have ei : i = ss.length := by omega
          subst ei
          go_wp2
          go_ret
          exact ⟨u6, rfl, by have := hN.out; rwa [List.take_length] at this, hB.out⟩
end Go.Proofs.Ytphloehjcfipfaa.Cl
end

section
/- proof.Check: the walk. -/
set_option linter.unusedVariables false
set_option linter.unusedSimpArgs false
namespace Go.Proofs.Ytphloehjcfipfaa.Cl
open Go.RowKit Go.Proofs.YtphloehjcfipfaaW.PrintWords Go.Proofs.YtphloehjcfipfaaW.PrintLast Go.Proofs.YtphloehjcfipfaaW.PrintMore

/-- The call of 'joined'. -/
theorem joined_calls (A : Option Addr) (cap : Nat) (ss : List (List (List Int))) (w : World) (hC : Kd.C KRR w A ss.length ss) (hcap : ss.length ≤ cap) (hl : (cat ss).length * 24 ≤ 140737488355328) :
    Calls Try.prog 34 #[.slice A ss.length cap] w fun e w' => ∃ v, e = .returned v ∧ Kd.N KR 35 w' w.heap.size (fun _ => True) v (cat ss) ∧ Below w.heap.size w w' := by
  have HCON := Lib.hid (concat_calls A cap ss w hC hcap hl)
  clear hC
  go_enter Try.func34, Try.ntmps34
  go_wp2_with (go_at_call 54; refine (HCON.out).mono ?_; rintro e w1 ⟨v1, rfl, hN, hB⟩; have HN := Aside0.mk hN; have HB := Aside0.mk hB; clear hN hB)
  go_ret
  exact ⟨v1, rfl, HN.out, HB.out⟩

theorem empty_any (A : Option Addr) (n cap : Nat) (w : World) : Calls Try.prog 36 #[.slice A n cap] w fun e w' => e = .returned (.bool (n == 0)) ∧ w' = w := by
  go_enter Try.func36, Try.ntmps36
  go_wp2
  go_ret
  refine ⟨?_, rfl⟩
  cases n <;> rfl

/-- Where the first empty clause stands. -/
def firstE : List (List Int) → Int
  | [] => -1
  | c :: r => if c.isEmpty then 0 else if firstE r < 0 then -1 else firstE r + 1
theorem firstE_range : ∀ l, -1 ≤ firstE l ∧ firstE l < l.length ∨ (l = [] ∧ firstE l = -1)
  | [] => .inr ⟨rfl, rfl⟩
  | c :: r => by
    refine .inl ?_
    unfold firstE
    have := firstE_range r
    simp only [List.length_cons]
    split
    · omega
    · split
      · omega
      · rcases this with h | ⟨_, h⟩ <;> omega
theorem firstE_any : ∀ l, (decide (0 ≤ firstE l)) = l.any List.isEmpty
  | [] => by simp [firstE]
  | c :: r => by
    have := firstE_any r
    unfold firstE
    rw [List.any_cons]
    cases h : c.isEmpty with
    | true => simp
    | false =>
      rw [if_neg (by simp), Bool.false_or, ← this]
      split
      · rename_i h1
        simp; omega
      · rename_i h1
        simp; omega
/-- No empty clause ahead of i: it is counted from there. -/
theorem firstE_step {l : List (List Int)} : ∀ {i : Nat}, i ≤ l.length → (∀ j, (h : j < i) → ∀ h2 : j < l.length, l[j].isEmpty = false) → firstE l = if firstE (l.drop i) < 0 then -1 else firstE (l.drop i) + i
  | 0, _, _ => by
    have := firstE_range l
    simp only [List.drop_zero]
    split
    · rcases this with h | ⟨_, h⟩ <;> omega
    · simp
  | i + 1, hi, h => by
    cases l with
    | nil => simp at hi
    | cons c r =>
      have hc := h 0 (by omega) (by simp)
      simp at hc
      have ih := firstE_step (l := r) (i := i) (by simpa using hi) (fun j hj h2 => by have := h (j + 1) (by omega) (by simp; omega); simpa using this)
      rw [List.drop_succ_cons]
      have e : firstE (c :: r) = if firstE r < 0 then -1 else firstE r + 1 := by
        show (if c.isEmpty then 0 else if firstE r < 0 then -1 else firstE r + 1) = _
        rw [if_neg (by simpa using hc)]
      rw [e, ih]
      generalize firstE (r.drop i) = z
      by_cases hz : z < 0
      · rw [if_pos hz, if_pos (by omega), if_pos hz]
      · rw [if_neg hz, if_neg (by omega), if_neg hz]; omega

set_option maxHeartbeats 1000000 in
theorem index_calls (A : Option Addr) (cap : Nat) (l : List (List Int)) (w : World) (hC : KR.C w A l.length l) (hcap : l.length ≤ cap) :
    Calls Try.prog 39 #[.slice A l.length cap, .func (.func 36) #[] #[]] w fun e w' => e = .returned (.int .i64 (firstE l)) ∧ w' = w := by
  have HC := Aside0.mk hC
  have hlen : l.length ≤ 9223372036854775807 := by have h1 := hC.1; have h2 := hC.2.1; omega
  clear hC
  go_enter Try.func39, Try.ntmps39
  go_wp2
  go_loop [8] (fun v8 => ∃ i : Nat, v8 = .int .i64 i ∧ Aside0 (i ≤ l.length) ∧ Aside0 (∀ j, (h : j < i) → ∀ h2 : j < l.length, l[j].isEmpty = false)) (fun i => l.length - (intOf i).toNat)
  case atStart => exact ⟨0, rfl, ⟨Nat.zero_le _⟩, ⟨fun j h => by omega⟩⟩
  case round =>
    obtain ⟨i, rfl, hi, hno⟩ := hrel
    have hi := hi.out
    have hst := Lib.hid (firstE_step hi hno.out)
    by_cases hlt : i < l.length
    · obtain ⟨ad, c, e, _, hK, hc0⟩ := Kd.C_get HC.out ([] : List Int) (i : Int) (by omega) (by omega)
      simp only [Int.toNat_natCast, List.getD_eq_getElem?_getD, List.getElem?_eq_getElem hlt, Option.getD_some] at hK hc0
      obtain ⟨A0, c0, rfl, l0, g0⟩ := hK
      cases e
      have hcell : w.cell? (ad.add i) = some (.slice A0 l[i].length c0) := by
        have hq := hc0 0 _ rfl
        rwa [Nat.add_zero, show (i * KR.sz) = i from Nat.mul_one i] at hq
      have hd : l.drop i = l[i] :: l.drop (i + 1) := List.drop_eq_getElem_cons hlt
      have hem : ∀ W, Calls Try.prog 36 #[.slice A0 l[i].length c0] W fun e w' => e = .returned (.bool l[i].isEmpty) ∧ w' = W := fun W =>
        (empty_any A0 l[i].length c0 W).mono fun e w' ⟨he, hw⟩ => ⟨by rw [he]; cases l[i] <;> rfl, hw⟩
      clear hc0 g0
      cases hb : l[i].isEmpty with
      | true =>
        rw [hb] at hem
        have HE := Lib.hid hem
        have hfin : firstE l = (i : Int) := by
          rw [hst.out, hd]
          simp [firstE, hb]
        have HF := Lib.hid hfin
        clear hem hb hd hfin
        go_wp2_with (go_at_call 36; refine (HE.out _).mono ?_; rintro e w' ⟨rfl, rfl⟩)
        go_ret
        exact ⟨by rw [HF.out]; rfl, rfl⟩
      | false =>
        rw [hb] at hem
        have HE := Lib.hid hem
        have HNO : Aside0 (∀ j, (h : j < i + 1) → ∀ h2 : j < l.length, l[j].isEmpty = false) := ⟨fun j h h2 => by
          rcases Nat.lt_or_ge j i with h3 | h3
          · exact hno.out j h3 h2
          · obtain rfl : j = i := by omega
            exact hb⟩
        clear hem hb hd
        go_wp2_with (go_at_call 36; refine (HE.out _).mono ?_; rintro e w' ⟨rfl, rfl⟩)
        go_round
        case rel => exact ⟨i + 1, by go_num, ⟨hlt⟩, HNO⟩
        case measure => simp [intOf]; omega
    · have ei : i = l.length := by omega
      subst ei
      have hfin : firstE l = -1 := by
        rw [hst.out, List.drop_length]
        simp [firstE]
      have HF := Lib.hid hfin
      clear hfin
      go_wp2
      go_ret
      exact ⟨by rw [HF.out]; rfl, rfl⟩

set_option maxHeartbeats 1000000 in
theorem contains_calls (A : Option Addr) (cap : Nat) (l : List (List Int)) (w : World) (hC : KR.C w A l.length l) (hcap : l.length ≤ cap) :
    Calls Try.prog 35 #[.slice A l.length cap, .func (.func 36) #[] #[]] w fun e w' => e = .returned (.bool (l.any List.isEmpty)) ∧ w' = w := by
  have HCON := Lib.hid (index_calls A cap l w hC hcap)
  have HF := Lib.hid (firstE_any l)
  generalize firstE l = r at HCON HF
  clear hC
  go_enter Try.func35, Try.ntmps35
  go_wp2_with (go_at_call 39; refine (HCON.out).mono ?_; rintro e w' ⟨rfl, rfl⟩)
  go_ret
  exact ⟨by rw [← HF.out]; rfl, rfl⟩

/-- The list of the clauses, and so much of the proof, as 'joined' is handed them. -/
theorem two_rows {w w1 : World} {A B : Option Addr} {l p : List (List Int)} {c1 c2 b : Nat} (h1 : KR.C w A l.length l) (hc1 : l.length ≤ c1) (h2 : KR.C w B p.length p) (hc2 : p.length ≤ c2) (hb : Below w.heap.size w w1)
    (hx : w1.cell? ⟨b, 0, none⟩ = some (.slice A l.length c1)) (hy : w1.cell? ⟨b, 1, none⟩ = some (.slice B p.length c2)) : Kd.C KRR w1 (some ⟨b, 0, none⟩) 2 [l, p] := by
  refine ⟨rfl, by omega, fun _ => ⟨_, rfl, fun j q hj => ?_⟩⟩
  have h0 : (j = 0 ∧ q = l) ∨ (j = 1 ∧ q = p) := by
    rcases j with _ | _ | j
    · exact .inl ⟨rfl, by simpa using hj.symm⟩
    · exact .inr ⟨rfl, by simpa using hj.symm⟩
    · simp at hj
  rcases h0 with ⟨rfl, rfl⟩ | ⟨rfl, rfl⟩
  · refine ⟨[.slice A q.length c1], rfl, ⟨A, c1, rfl, hc1, Kd.C_below h1 hb⟩, fun i u hi => ?_⟩
    cases i with
    | zero =>
      obtain rfl : u = .slice A q.length c1 := by simpa using hi.symm
      rw [show 0 * KRR.sz + 0 = 0 from rfl, add_plain]
      exact hx
    | succ i => simp at hi
  · refine ⟨[.slice B q.length c2], rfl, ⟨B, c2, rfl, hc2, Kd.C_below h2 hb⟩, fun i u hi => ?_⟩
    cases i with
    | zero =>
      obtain rfl : u = .slice B q.length c2 := by simpa using hi.symm
      rw [show 1 * KRR.sz + 0 = 1 from rfl, add_plain]
      exact hy
    | succ i => simp at hi

theorem total_append (l p : List (List Int)) : total (l ++ p) = total l + total p := by
  rw [← length_flat, ← length_flat l, ← length_flat p]
  have : flat (l ++ p) = flat l ++ flat p := by
    induction l with
    | nil => simp [flat]
    | cons c l ih => simp only [flat, List.cons_append, List.foldr_cons] at *; rw [ih, List.append_assoc]
  rw [this, List.length_append]
theorem total_take_le (p : List (List Int)) (k : Nat) : total (p.take k) ≤ total p := by
  have h := total_append (p.take k) (p.drop k)
  rw [List.take_append_drop] at h
  omega
theorem getElem_total {p : List (List Int)} {k : Nat} (h : k < p.length) : p[k].length + total (p.take k) ≤ total p := by
  have h1 := total_append (p.take k) (p.drop k)
  rw [List.take_append_drop, List.drop_eq_getElem_cons h] at h1
  simp only [total, List.map_cons, List.foldr_cons] at *
  omega

theorem two_cells (x : World) (a b : Value) (t : TypeId) : (x.alloc (.cells #[a, b] t)).cell? ⟨x.heap.size, 0, none⟩ = some a ∧ (x.alloc (.cells #[a, b] t)).cell? ⟨x.heap.size, 1, none⟩ = some b := by
  have h : (x.alloc (.cells #[a, b] t)).heap[x.heap.size]? = some (.cells #[a, b] t (0, 0)) := by
    show (x.heap.push _)[x.heap.size]? = _
    simp
  constructor
  · unfold World.cell?
    rw [h]
    rfl
  · unfold World.cell?
    rw [h]
    rfl

/-- Not beyond all measure. -/
def Fit2 (l p : List (List Int)) : Prop := total l + total p < 2199023255552 ∧ l.length + p.length < 2199023255552

def CheckPost (l p : List (List Int)) (w : World) (e : Ending) (w' : World) : Prop := e = .returned (.tuple #[.int .i64 (check l p).1, .int .i64 (check l p).2]) ∧ Below w.heap.size w w'

theorem checkGo_drop {l p : List (List Int)} {k : Nat} (h : k < p.length) : checkGo l p (p.drop k) = if cRight p[k] then (if followsB (l ++ p.take k) p[k] then checkGo l p (p.drop (k + 1)) else (14, (k : Int))) else (3, (k : Int)) := by
  rw [List.drop_eq_getElem_cons h]
  have e : p.length - ((p.drop (k + 1)).length + 1) = k := by rw [List.length_drop]; omega
  simp only [checkGo, e]

set_option maxRecDepth 100000 in
set_option maxHeartbeats 4000000 in
theorem check_wrong (A : Option Addr) (cap : Nat) (l : List (List Int)) (B : Option Addr) (bcap : Nat) (p : List (List Int)) (w : World) (hC : KR.C w A l.length l) (hcap : l.length ≤ cap) (hP : KR.C w B p.length p) (hbcap : p.length ≤ bcap) (h : lRight l = false) :
    Calls Try.prog 14 #[.slice A l.length cap, .slice B p.length bcap] w (CheckPost l p w) := by
  have hcon := right_calls A cap l w hC hcap
  rw [h] at hcon
  have HCON := Lib.hid hcon
  have hf : check l p = (3, 0) := by unfold check; rw [h]; rfl
  have HF := Lib.hid hf
  clear hC hP h hcon hf
  go_enter Try.func14, Try.ntmps14
  go_wp2_with (go_at_call 16; refine (HCON.out).mono ?_; rintro e w' ⟨rfl, nd, rfl⟩)
  go_ret2
  exact ⟨by rw [HF.out]; rfl, pw_below_drewN (Below.refl _ _) _⟩

set_option maxRecDepth 100000 in
set_option maxHeartbeats 4000000 in
theorem check_right (A : Option Addr) (cap : Nat) (l : List (List Int)) (B : Option Addr) (bcap : Nat) (p : List (List Int)) (w : World) (hC : KR.C w A l.length l) (hcap : l.length ≤ cap) (hP : KR.C w B p.length p) (hbcap : p.length ≤ bcap) (h : lRight l = true) (hfit : Fit2 l p) :
    Calls Try.prog 14 #[.slice A l.length cap, .slice B p.length bcap] w (CheckPost l p w) := by
  have HC := Aside0.mk hC
  have HP := Aside0.mk hP
  have hcon := right_calls A cap l w hC hcap
  rw [h] at hcon
  have HCON := Lib.hid hcon
  have hf : check l p = checkGo l p p := by unfold check; rw [h]; rfl
  have HF := Lib.hid hf
  have hcontains := fun W (hb : Below w.heap.size w W) => contains_calls B bcap p W (Kd.C_below HP.out hb) hbcap
  have HCT := Lib.hid hcontains
  obtain ⟨i0, hi0, _, hsz0, _⟩ := info_parts info35
  obtain ⟨hf1, hf2⟩ := hfit
  clear hC hP h hcon hf hcontains
  go_enter Try.func14, Try.ntmps14
  go_wp2_with (go_at_call 16; refine (HCON.out).mono ?_; rintro e w' ⟨rfl, nd, rfl⟩)
  go_loopw [17] (fun v17 wr => ∃ k : Nat, v17 = .int .i64 k ∧ Aside0 (k ≤ p.length) ∧ Aside0 (checkGo l p (p.drop k) = checkGo l p p) ∧ Aside0 (Below w.heap.size w wr)) (fun i _ => p.length - (intOf i).toNat)
  case atStart => exact ⟨0, rfl, ⟨Nat.zero_le _⟩, ⟨rfl⟩, ⟨pw_below_drewN (Below.refl _ _) _⟩⟩
  case round =>
    obtain ⟨k, rfl, hk, hgo, hb⟩ := hrel
    have hk := hk.out
    by_cases hlt : k < p.length
    · obtain ⟨ad, c, e, _, hK, hc0⟩ := Kd.C_get (Kd.C_below HP.out hb.out) ([] : List Int) (k : Int) (by omega) (by omega)
      simp only [Int.toNat_natCast, List.getD_eq_getElem?_getD, List.getElem?_eq_getElem hlt, Option.getD_some] at hK hc0
      obtain ⟨A0, c0, rfl, l0, g0⟩ := hK
      cases e
      have hcell : wr.cell? (ad.add k) = some (.slice A0 p[k].length c0) := by
        have hq := hc0 0 _ rfl
        rwa [Nat.add_zero, show (k * KR.sz) = k from Nat.mul_one k] at hq
      have HROW := Aside0.mk g0
      have hcutm := cut_mid (P := Try.prog) 22 35 .i64 .i64 Try.underlying22 hi0 1 hsz0 (some ad) p.length bcap (k : Int) ((k : Int) + 1) (by omega) (by omega) (by omega) hbcap
      have hcutt := cut_to (P := Try.prog) 22 35 .i64 Try.underlying22 hi0 (some ad) p.length bcap (k : Int) (by omega) (by omega) hbcap
      have hCm := fun W (hW : Below w.heap.size w W) => Kd.C_mid (lo := k) (hi := k + 1) (c := bcap) (Kd.C_below HP.out hW) (by omega) (by omega) hbcap
      have e1 : (p.take (k + 1)).drop k = [p[k]] := by
        rw [List.take_succ_eq_append_getElem hlt, List.drop_append_of_le_length (by rw [List.length_take]; omega), List.drop_of_length_le (by rw [List.length_take]; omega)]
        rfl
      rw [e1] at hCm
      simp only [Int.toNat_natCast, show ((k : Int) + 1).toNat = k + 1 by omega, show k + 1 - k = 1 by omega, Nat.mul_one] at hcutm
      simp only [Int.toNat_natCast] at hcutt
      rw [show KR.sz = 1 from rfl, Nat.mul_one] at hCm
      generalize (if bcap = k then some ad else (some ad).map (·.add k)) = Am at hcutm hCm
      generalize hcm : bcap - k = cm at hcutm
      have hcm1 : 1 ≤ cm := by omega
      have hrt := fun W (hW : Below w.heap.size w W) => right_calls Am cm [p[k]] W (hCm W hW) hcm1
      rw [show lRight [p[k]] = cRight p[k] by simp [lRight]] at hrt
      have hgd := checkGo_drop (l := l) hlt
      have hgt := getElem_total hlt
      have hCt := fun W (hW : Below w.heap.size w W) => Kd.C_take (m := k) (Kd.C_below HP.out hW) (by omega)
      have htk : (p.take k).length = k := by rw [List.length_take]; omega
      have HTK := Lib.hid htk
      have HCMM := Lib.hid hcm
      clear hcm hc0 e1 htk
      cases hc : cRight p[k] with
      | false =>
        rw [hc] at hrt hgd
        have HR := Lib.hid hrt
        have hend := Lib.hid (hgo.out.symm.trans hgd)
        clear hrt hgd hCm hCt hc
        go_wp2_with (go_at_call 16; refine (HR.out _ hb.out).mono ?_; rintro e w' ⟨rfl, nd, rfl⟩)
        go_ret2
        exact ⟨by rw [HF.out, hend.out]; rfl, pw_below_drewN hb.out _⟩
      | true =>
        rw [hc] at hrt hgd
        have HR := Lib.hid hrt
        have HCC := Aside0.mk hc
        have HCt := Lib.hid hCt
        have HGD := Lib.hid hgd
        have HRO := Lib.hid g0
        clear hrt hCm hCt hc hgd g0
        have hj := fun nd => joined_calls (some ⟨wr.heap.size, 0, none⟩) 2 [l, p.take k] ((wr.drewN nd).alloc (.cells #[.slice A l.length cap, .slice (some ad) k bcap] 22))
          (two_rows (w := w) (c1 := cap) (c2 := bcap) HC.out hcap (HCt.out w (Below.refl _ _)) (by rw [HTK.out]; omega) (below_alloc (pw_below_drewN hb.out nd) _) (two_cells _ _ _ _).1 (by rw [HTK.out]; exact (two_cells _ _ _ _).2)) (by simp)
            (by simp only [cat, List.foldr_cons, List.foldr_nil, List.append_nil, List.length_append, HTK.out]; omega)
        have hcat : cat [l, p.take k] = l ++ p.take k := by simp [cat]
        rw [hcat] at hj
        have hj2 := fun nd => (hj nd).mono (R' := fun e w' => ∃ (Av : Option Addr) (cv : Nat), e = .returned (.slice Av (l.length + k) cv) ∧ ((l ++ p.take k).length ≤ cv ∧ KR.C w' Av (l ++ p.take k).length (l ++ p.take k) ∧ Below wr.heap.size wr w')) fun e w' ⟨v, he, hN, hB⟩ => by
          obtain ⟨Av, cv, hv, hle, hCv⟩ := Kd.N_reads hN
          subst hv
          rw [List.length_append, HTK.out] at he
          exact ⟨Av, cv, he, hle, hCv, below_then (below_alloc (pw_below_drewN (Below.refl _ _) nd) _) (by simp) hB⟩
        rw [show (l ++ p.take k).length = l.length + k by rw [List.length_append, HTK.out]] at hj2
        have HJ := Lib.hid hj2
        have hfw := fun W Av cv (hle : (l ++ p.take k).length ≤ cv) (hCv : KR.C W Av (l ++ p.take k).length (l ++ p.take k)) (hW : Below wr.heap.size wr W) =>
          follows_calls Av cv (l ++ p.take k) A0 c0 p[k] W hCv hle (Kd.C_below HRO.out hW) l0 HCC.out (by rw [total_append]; omega) (by rw [List.length_append, HTK.out]; omega)
        rw [show (l ++ p.take k).length = l.length + k by rw [List.length_append, HTK.out]] at hfw
        have HFW := Lib.hid hfw
        clear hj hj2 hcat hfw
        cases hfb : followsB (l ++ p.take k) p[k] with
        | false =>
          have hend := hgo.out.symm.trans HGD.out
          rw [hfb] at hend
          have HEND := Lib.hid hend
          have HFB := Lib.hid hfb
          clear hend
          clear hfb
          go_wp2_with fail
          refine (HR.out _ hb.out).mono ?_
          rintro e w' ⟨rfl, nd, rfl⟩
          go_wp2_with fail
          refine (HJ.out nd).mono ?_
          rintro e w5 ⟨Av, cv, rfl, hq⟩
          have HQ := Aside0.mk hq
          clear hq
          have HB5 := Aside0.mk (below_then hb.out hb.out.size HQ.out.2.2)
          go_wp2_with fail
          refine (HFW.out w5 Av cv HQ.out.1 HQ.out.2.1 HQ.out.2.2).mono ?_
          rw [HFB.out]
          rintro e w6 ⟨rfl, hB6⟩
          have HB6 := Aside0.mk (below_then HB5.out HB5.out.size hB6)
          clear hB6
          go_wp2
          go_ret2
          exact ⟨by rw [HF.out, HEND.out]; rfl, HB6.out⟩
        | true =>
          have hend := HGD.out
          rw [hfb] at hend
          have HEND := Aside0.mk (show checkGo l p (p.drop (k + 1)) = checkGo l p p from hend.symm.trans hgo.out)
          have HFB := Lib.hid hfb
          clear hend
          clear hfb
          go_wp2_with fail
          refine (HR.out _ hb.out).mono ?_
          rintro e w' ⟨rfl, nd, rfl⟩
          go_wp2_with fail
          refine (HJ.out nd).mono ?_
          rintro e w5 ⟨Av, cv, rfl, hq⟩
          have HQ := Aside0.mk hq
          clear hq
          have HB5 := Aside0.mk (below_then hb.out hb.out.size HQ.out.2.2)
          go_wp2_with fail
          refine (HFW.out w5 Av cv HQ.out.1 HQ.out.2.1 HQ.out.2.2).mono ?_
          rw [HFB.out]
          rintro e w6 ⟨rfl, hB6⟩
          have HB6 := Aside0.mk (below_then HB5.out HB5.out.size hB6)
          clear hB6
          go_wp2
          go_roundw
          case rel => exact ⟨k + 1, by go_num, ⟨hlt⟩, HEND, HB6⟩
          case measure => simp [intOf]; omega
    · have ek : k = p.length := by omega
      subst ek
      have hend := hgo.out
      rw [List.drop_length] at hend
      simp only [checkGo] at hend
      have hct := HCT.out wr hb.out
      cases hany : p.any List.isEmpty with
      | true =>
        rw [hany] at hct hend
        have HC1 := Lib.hid hct
        have HE := Lib.hid hend
        clear hct hend hany
        go_wp2_with (go_at_call 35; refine (HC1.out).mono ?_; rintro e w' ⟨rfl, rfl⟩)
        go_ret2
        exact ⟨by rw [HF.out, ← HE.out]; rfl, hb.out⟩
      | false =>
        rw [hany] at hct hend
        have HC1 := Lib.hid hct
        have HE := Lib.hid hend
        clear hct hend hany
        go_wp2_with (go_at_call 35; refine (HC1.out).mono ?_; rintro e w' ⟨rfl, rfl⟩)
        go_ret2
        exact ⟨by rw [HF.out, ← HE.out]; rfl, hb.out⟩

theorem check_calls (A : Option Addr) (cap : Nat) (l : List (List Int)) (B : Option Addr) (bcap : Nat) (p : List (List Int)) (w : World) (hC : KR.C w A l.length l) (hcap : l.length ≤ cap) (hP : KR.C w B p.length p) (hbcap : p.length ≤ bcap) (hfit : Fit2 l p) :
    Calls Try.prog 14 #[.slice A l.length cap, .slice B p.length bcap] w (CheckPost l p w) := by
  cases h : lRight l with
  | false => exact check_wrong A cap l B bcap p w hC hcap hP hbcap h
  | true => exact check_right A cap l B bcap p w hC hcap hP hbcap h hfit
end Go.Proofs.Ytphloehjcfipfaa.Cl
end

section
/- The document's example of layer 18: it is as it says. -/
set_option linter.unusedVariables false
set_option linter.unusedSimpArgs false
namespace Go.Proofs.Ytphloehjcfipfaa.Cl
open Go.RowKit Go.Proofs.YtphloehjcfipfaaW.PrintWords

theorem ki_of {w : World} {b : Nat} {c : List Int} (hl : c.length ≤ 9223372036854775807) (h : ∀ j (hj : j < c.length), w.cell? ⟨b, j, none⟩ = some (.int .i64 c[j])) : (Kd.int .i64).C w (some ⟨b, 0, none⟩) c.length c :=
  ⟨rfl, hl, fun _ => ⟨_, rfl, fun j p hj => by
    obtain ⟨hj1, e⟩ := List.getElem?_eq_some_iff.1 hj
    refine ⟨[.int .i64 p], rfl, rfl, fun i u hi => ?_⟩
    cases i with
    | zero =>
      obtain rfl : u = .int .i64 p := by simpa using hi.symm
      rw [add_plain, show j * (Kd.int .i64).sz + 0 = j from Nat.mul_one j, h j hj1, e]
    | succ i => simp at hi⟩⟩
theorem kr_of {w : World} {b : Nat} {l : List (List Int)} (hl : l.length ≤ 9223372036854775807) (h : ∀ j (hj : j < l.length), ∃ A0 c0, w.cell? ⟨b, j, none⟩ = some (.slice A0 l[j].length c0) ∧ l[j].length ≤ c0 ∧ (Kd.int .i64).C w A0 l[j].length l[j]) : (Kd.slice 3 (Kd.int .i64)).C w (some ⟨b, 0, none⟩) l.length l :=
  ⟨rfl, hl, fun _ => ⟨_, rfl, fun j p hj => by
    obtain ⟨hj1, e⟩ := List.getElem?_eq_some_iff.1 hj
    obtain ⟨A0, c0, h1, h2, h3⟩ := h j hj1
    subst e
    refine ⟨[.slice A0 l[j].length c0], rfl, ⟨A0, c0, rfl, h2, h3⟩, fun i u hi => ?_⟩
    cases i with
    | zero =>
      obtain rfl : u = .slice A0 l[j].length c0 := by simpa using hi.symm
      rw [add_plain, show j * (Kd.slice 3 (Kd.int .i64)).sz + 0 = j from Nat.mul_one j]
      exact h1
    | succ i => simp at hi⟩⟩
/-- One literal, or none, in a block. -/
theorem ki_one {w : World} {b : Nat} {x : Int} (h : w.cell? ⟨b, 0, none⟩ = some (.int .i64 x)) : (Kd.int .i64).C w (some ⟨b, 0, none⟩) [x].length [x] :=
  ki_of (by simp) fun j hj => by
    obtain rfl : j = 0 := by simpa using hj
    exact h
theorem ki_nil (w : World) (A : Option Addr) : (Kd.int .i64).C w A ([] : List Int).length [] := ⟨rfl, by simp, fun h => by simp at h⟩
theorem kr_one {w : World} {b : Nat} {c : List Int} {A0 : Option Addr} {c0 : Nat} (h : w.cell? ⟨b, 0, none⟩ = some (.slice A0 c.length c0)) (h2 : c.length ≤ c0) (h3 : (Kd.int .i64).C w A0 c.length c) : (Kd.slice 3 (Kd.int .i64)).C w (some ⟨b, 0, none⟩) [c].length [c] :=
  kr_of (by simp) fun j hj => by
    obtain rfl : j = 0 := by simpa using hj
    exact ⟨A0, c0, h, h2, h3⟩
theorem kr_two {w : World} {b : Nat} {c d : List Int} {A0 B0 : Option Addr} {c0 d0 : Nat} (h : w.cell? ⟨b, 0, none⟩ = some (.slice A0 c.length c0)) (h2 : c.length ≤ c0) (h3 : (Kd.int .i64).C w A0 c.length c)
    (k : w.cell? ⟨b, 1, none⟩ = some (.slice B0 d.length d0)) (k2 : d.length ≤ d0) (k3 : (Kd.int .i64).C w B0 d.length d) : (Kd.slice 3 (Kd.int .i64)).C w (some ⟨b, 0, none⟩) [c, d].length [c, d] :=
  kr_of (by simp) fun j hj => by
    rcases j with _ | _ | j
    · exact ⟨A0, c0, h, h2, h3⟩
    · exact ⟨B0, d0, k, k2, k3⟩
    · simp at hj
      omega
theorem kr_three {w : World} {b : Nat} {c d f : List Int} {A0 B0 C0 : Option Addr} {c0 d0 f0 : Nat} (h : w.cell? ⟨b, 0, none⟩ = some (.slice A0 c.length c0)) (h2 : c.length ≤ c0) (h3 : (Kd.int .i64).C w A0 c.length c)
    (k : w.cell? ⟨b, 1, none⟩ = some (.slice B0 d.length d0)) (k2 : d.length ≤ d0) (k3 : (Kd.int .i64).C w B0 d.length d) (m : w.cell? ⟨b, 2, none⟩ = some (.slice C0 f.length f0)) (m2 : f.length ≤ f0) (m3 : (Kd.int .i64).C w C0 f.length f) : (Kd.slice 3 (Kd.int .i64)).C w (some ⟨b, 0, none⟩) [c, d, f].length [c, d, f] :=
  kr_of (by simp) fun j hj => by
    rcases j with _ | _ | _ | j
    · exact ⟨A0, c0, h, h2, h3⟩
    · exact ⟨B0, d0, k, k2, k3⟩
    · exact ⟨C0, f0, m, m2, m3⟩
    · simp at hj
      omega

theorem check_ex1 : check [[1], [-1]] [[]] = (0, 0) := by decide +kernel
theorem check_ex2 : check [[1], [2]] [[1], [-1], []] = (14, 1) := by decide +kernel

set_option maxRecDepth 100000 in
set_option maxHeartbeats 2000000 in
theorem awake_calls (w : World) : Calls Try.prog 12 #[] w fun e w' => e = .returned (.bool true) ∧ Below w.heap.size w w' := by
  go_enter Try.func12, Try.ntmps12
  go_wp2_with fail
  refine (check_calls (some ⟨_, 0, none⟩) 2 [[1], [-1]] (some ⟨_, 0, none⟩) 1 [[]] _ ?c1 (Nat.le_refl 2) ?c2 (Nat.le_refl 1) (by unfold Fit2; decide)).mono ?_
  case c1 => exact kr_two (c0 := 1) (d0 := 1) (by go_simp; rfl) (by decide) (ki_one (by go_simp)) (by go_simp; rfl) (by decide) (ki_one (by go_simp))
  case c2 => exact kr_one (c0 := 0) (by go_simp; rfl) (by decide) (ki_nil _ _)
  intro e w1 hp
  unfold CheckPost at hp
  rw [check_ex1] at hp
  obtain ⟨rfl, hb1⟩ := hp
  have HB1 := Aside0.mk (Below.trans (b := _) (by repeat (first | exact Below.refl _ _ | apply below_alloc)) (hb1.mono (by simp; omega)) : Below w.heap.size w w1)
  clear hb1
  go_wp2_with fail
  refine (check_calls (some ⟨_, 0, none⟩) 2 [[1], [2]] (some ⟨_, 0, none⟩) 3 [[1], [-1], []] _ ?c1 (Nat.le_refl 2) ?c2 (Nat.le_refl 3) (by unfold Fit2; decide)).mono ?_
  case c1 => exact kr_two (c0 := 1) (d0 := 1) (by go_simp; rfl) (by decide) (ki_one (by go_simp)) (by go_simp; rfl) (by decide) (ki_one (by go_simp))
  case c2 => exact kr_three (c0 := 1) (d0 := 1) (f0 := 0) (by go_simp; rfl) (by decide) (ki_one (by go_simp)) (by go_simp; rfl) (by decide) (ki_one (by go_simp)) (by go_simp; rfl) (by decide) (ki_nil _ _)
  intro e w2 hp
  unfold CheckPost at hp
  rw [check_ex2] at hp
  obtain ⟨rfl, hb2⟩ := hp
  have h2 : Below w1.heap.size w1 w2 := Below.trans (by repeat (first | exact Below.refl _ _ | apply below_alloc)) (hb2.mono (by simp; omega))
  have HB2 := Aside0.mk (below_then HB1.out HB1.out.size h2)
  clear h2
  clear hb2
  go_wp2
  go_ret
  exact ⟨rfl, HB2.out⟩
end Go.Proofs.Ytphloehjcfipfaa.Cl
namespace Go.Proofs.Ytphloehjcfipfaa.X
open Go.RowKit Go.Proofs.YtphloehjcfipfaaW.PrintWords Go.Proofs.Ytphloehjcfipfaa.Cl
def backreachlaw18_awake.f : Option Bool := some true
theorem backreachlaw18_awake.calls (r : Bool) (w : World) (h : backreachlaw18_awake.f = some r) : Calls Try.prog 12 #[] w fun e w' => e = .returned (.bool r) ∧ Below w.heap.size w w' := by
  obtain rfl : true = r := Option.some.inj h
  exact awake_calls w
end Go.Proofs.Ytphloehjcfipfaa.X
end

section
/- proof.Check, for the printed callers. -/
set_option linter.unusedVariables false
namespace Go.Proofs.Ytphloehjcfipfaa.X
open Go.RowKit Go.Proofs.YtphloehjcfipfaaW.PrintWords Go.Proofs.Ytphloehjcfipfaa.Cl

/-- What it answers, where the lists aren't beyond all measure. -/
def proof_Check.f (l0 : List (List Int)) (l1 : List (List Int)) : Option (Int × Int) := if total l0 + total l1 < 2199023255552 ∧ l0.length + l1.length < 2199023255552 then some (check l0 l1) else none
theorem proof_Check.calls (A0 : Option Addr) (c0 : Nat) (l0 : List (List Int)) (A1 : Option Addr) (c1 : Nat) (l1 : List (List Int)) (r1 : Int) (r2 : Int) (w : World) (hr0 : Kd.C (Kd.slice 3 (Kd.int .i64)) w A0 l0.length l0) (hc0 : l0.length ≤ c0) (hr1 : Kd.C (Kd.slice 3 (Kd.int .i64)) w A1 l1.length l1) (hc1 : l1.length ≤ c1) (h : proof_Check.f l0 l1 = some (r1, r2)) :
    Calls Try.prog 14 #[.slice A0 l0.length c0, .slice A1 l1.length c1] w fun e w' => e = .returned (.tuple #[.int .i64 r1, .int .i64 r2]) ∧ Below w.heap.size w w' := by
  unfold proof_Check.f at h
  split at h
  · rename_i hs
    have e := Option.some.inj h
    refine (check_calls A0 c0 l0 A1 c1 l1 w hr0 hc0 hr1 hc1 hs).mono fun e' w' hp => ?_
    unfold CheckPost at hp
    rw [e] at hp
    exact hp
  · cases h
end Go.Proofs.Ytphloehjcfipfaa.X
end
