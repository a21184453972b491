/- clause.Print: the text, and the library's calls in the words that the walk wants. -/
import Derived.Test.YtnknoaolbjofiaaDoorClMost
import Derived.Test.YtnknoaolbjofiaaDoorBuild
import Derived.Lib.AppendIntMem
import Derived.Lib.ItoaLen
import Derived.Shelf.Strings.MapGrows
set_option linter.unusedVariables false
set_option linter.unusedSimpArgs false
namespace Go.Proofs.YtnknoaolbjofiaaDoor.Cl
open Go.RowKit Go.Proofs.YtnknoaolbjofiaaDoorW.PrintWords Go.Proofs.YtnknoaolbjofiaaDoorW.PrintLast Go.Proofs.YtnknoaolbjofiaaDoorW.PrintMore

/-- A clause's line, and the whole text. -/
def printC (c : List Int) : List UInt8 := (c.map fun x => Lib.itoa x ++ [32]).flatten ++ [48, 10]
def printL (l : List (List Int)) : List UInt8 := [112, 32, 99, 110, 102, 32] ++ Lib.itoa (most l) ++ [32] ++ Lib.itoa l.length ++ [10] ++ (l.map printC).flatten

abbrev Tab (w : World) : Prop := Lib.TabIs Tryd.prog w "internal/strconv.uint64pow10" .u64 Lib.pow10Tab
theorem itoa_calls (x : Int) (h0 : -9223372036854775808 ≤ x) (h1 : x ≤ 9223372036854775807) {w W : World} (hT : Tab w) (hW : Below w.heap.size w W) :
    Calls Tryd.prog 40 #[.int .i64 x] W fun e w' => e = .returned (.string ⟨(Lib.itoa x).toArray⟩) ∧ Below W.heap.size W w' :=
  (Tryd.strconv_Itoa x h0 h1 W ((Lib.tabBelow_of_tabIs hT) W hW)).mono fun e w' ⟨he, k, os, hw⟩ => ⟨he, by rw [hw]; exact Lib.below_grow _ _ (Nat.le_refl _) k os⟩

theorem builder_below {T e : TypeId} {B b : Nat} {p : Value} {bs : List Value} {W W' : World} (h : Lib.BuilderAt T e B b p bs W) (hb : Below W.heap.size W W') : Lib.BuilderAt T e B b p bs W' := by
  have hlt := h.lt
  obtain ⟨hB, v, hv, hown, hne⟩ := h
  exact ⟨hB, v, (hb.block b hlt).trans hv, hown.kept (row := none) ⟨hb.os, hb.tape, hb.output, hb.size, fun k hk _ => hb.block k hk⟩ (Classical.em _), hne⟩
theorem isBuilder_below {T e : TypeId} {B b : Nat} {bs : List Value} {W W' : World} (h : Lib.IsBuilder T e B b bs W) (hb : Below W.heap.size W W') : Lib.IsBuilder T e B b bs W' :=
  h.elim (fun x => .inl (builder_below x hb)) (fun x => .inr (builder_below x hb))
/-- One write, in bytes. -/
theorem write_calls (B b : Nat) (l s : List UInt8) (W : World) (h : Lib.IsBuilder 65 5 B b (Lib.byteCells l) W) (hlen : l.length + s.length ≤ 140737488355328) (hBw : B ≤ W.heap.size) :
    Calls Tryd.prog 39 #[.pointer (some ⟨b, 0, none⟩), .string ⟨s.toArray⟩] W fun e w' => (∃ n : Int, e = .returned (.tuple #[.int .i64 n, .nilIface])) ∧ Lib.IsBuilder 65 5 B b (Lib.byteCells (l ++ s)) w' ∧ Below B W w' :=
  (Tryd.Builder_WriteString B b (Lib.byteCells l) ⟨s.toArray⟩ W h (by simpa [Lib.byteCells, ByteArray.size] using hlen) hBw).mono fun e w' ⟨he, hb, hB⟩ => ⟨⟨_, he⟩, .inr (by rw [Lib.byteCells_append]; exact hb), hB⟩
end Go.Proofs.YtnknoaolbjofiaaDoor.Cl
