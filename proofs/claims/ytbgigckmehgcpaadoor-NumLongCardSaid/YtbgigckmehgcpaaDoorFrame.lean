/- The rows' frame: the tables that the rows list, and a world that holds them. -/
import Derived.Test.YtbgigckmehgcpaaDoorCards
import Derived.Test.YtbgigckmehgcpaaDoorTie
import Derived.Test.YtbgigckmehgcpaaDoorExtA
import Derived.WalkKit
import Derived.ProofKit
import Derived.OpenShut
import Derived.ShutString
import Derived.Deep.DeepHandedRow
import Derived.Lib.LaidTab
import Derived.Lib.SmallJoins
import Derived.Stop.LaidErr
namespace Go.Proofs.YtbgigckmehgcpaaDoor
open Go.ChangeShapes Go.WideShapes Go.ChangeAt Go.RowKit
namespace Frame
theorem own : ownKnob Tryd.prog.godebug = none := by kernel_rfl
theorem gType : (Tryd.prog.globals[1]?).map (·.type) = some 89 := by kernel_rfl
theorem cells89 : Tryd.prog.cellsOf 89 = 20 := by kernel_rfl
theorem cells79 : Tryd.prog.cellsOf 79 = 1 := by kernel_rfl
theorem tabs {W : World} (h : laidMetH Tryd.prog Rows.numParsesRow.laid W) : Tabs W :=
  Lib.tabIs_of_head (name := "internal/strconv.uint64pow10") (k := .u64) (zs := Lib.pow10Tab) (g := 1) (t := 89) (e := 79) (n := 20) gPow10 gType Tryd.underlying89 Tryd.underlying79 cells79 cells89 (laidMet.tail (laidMet.tail h))
def lay (w : World) (g : Nat) (cs : Array Value) : World := { w with heap := w.heap.modify g fun
  | .cells _ t frozen => .cells cs t frozen
  | o => o }
noncomputable def laidWorld (os : Os) : World :=
  lay (lay (lay (lay (lay (World.holding Tryd.prog os ⟨#[], #[], []⟩) 1 #[.int .u64 1, .int .u64 10, .int .u64 100, .int .u64 1000, .int .u64 10000, .int .u64 100000, .int .u64 1000000, .int .u64 10000000, .int .u64 100000000, .int .u64 1000000000, .int .u64 10000000000, .int .u64 100000000000, .int .u64 1000000000000, .int .u64 10000000000000, .int .u64 100000000000000, .int .u64 1000000000000000, .int .u64 10000000000000000, .int .u64 100000000000000000, .int .u64 1000000000000000000, .int .u64 10000000000000000000]) 2 (Go.Pinned.utf8FirstZ.map fun (n : Nat) => Value.int .u8 (n : Int)).toArray) 3 #[.int .u8 128, .int .u8 191, .int .u8 160, .int .u8 191, .int .u8 128, .int .u8 159, .int .u8 144, .int .u8 191, .int .u8 128, .int .u8 143, .int .u8 0, .int .u8 0, .int .u8 0, .int .u8 0, .int .u8 0, .int .u8 0, .int .u8 0, .int .u8 0, .int .u8 0, .int .u8 0, .int .u8 0, .int .u8 0, .int .u8 0, .int .u8 0, .int .u8 0, .int .u8 0, .int .u8 0, .int .u8 0, .int .u8 0, .int .u8 0, .int .u8 0, .int .u8 0]) 4 #[.int .u8 0, .int .u8 1, .int .u8 28, .int .u8 2, .int .u8 29, .int .u8 14, .int .u8 24, .int .u8 3, .int .u8 30, .int .u8 22, .int .u8 20, .int .u8 15, .int .u8 25, .int .u8 17, .int .u8 4, .int .u8 8, .int .u8 31, .int .u8 27, .int .u8 13, .int .u8 23, .int .u8 21, .int .u8 19, .int .u8 16, .int .u8 7, .int .u8 26, .int .u8 12, .int .u8 18, .int .u8 6, .int .u8 11, .int .u8 5, .int .u8 10, .int .u8 9]) 5 #[.int .u8 0, .int .u8 1, .int .u8 56, .int .u8 2, .int .u8 57, .int .u8 49, .int .u8 28, .int .u8 3, .int .u8 61, .int .u8 58, .int .u8 42, .int .u8 50, .int .u8 38, .int .u8 29, .int .u8 17, .int .u8 4, .int .u8 62, .int .u8 47, .int .u8 59, .int .u8 36, .int .u8 45, .int .u8 43, .int .u8 51, .int .u8 22, .int .u8 53, .int .u8 39, .int .u8 33, .int .u8 30, .int .u8 24, .int .u8 18, .int .u8 12, .int .u8 5, .int .u8 63, .int .u8 55, .int .u8 48, .int .u8 27, .int .u8 60, .int .u8 41, .int .u8 37, .int .u8 16, .int .u8 46, .int .u8 35, .int .u8 44, .int .u8 21, .int .u8 52, .int .u8 32, .int .u8 23, .int .u8 11, .int .u8 54, .int .u8 26, .int .u8 40, .int .u8 15, .int .u8 34, .int .u8 20, .int .u8 31, .int .u8 10, .int .u8 25, .int .u8 14, .int .u8 19, .int .u8 9, .int .u8 13, .int .u8 8, .int .u8 7, .int .u8 6]
open Go.Joins in
/-- A number, read again. -/
theorem agg24 {H : Type} {enc : TypeId × Value → H} {W' : World} {b : Nat} {sp : Nat → Bool} {hd : Bool} (x : Bool) (s : ByteArray) (n : Int) (hs : s.size ≤ maxLen) (hn : (Lit.int .i64 n).wf = true) :
    DataW.Trod enc Tryd.prog W' b sp hd 24 (.agg #[.bool x, .string s, .int .i64 n]) (.agg [.lit (.bool x), .lit (.string s.data.toList), .lit (.int .i64 n)]) [] := by
  obtain ⟨n1, h1⟩ := Go.ChangeMaps.shut_string (enc := enc) (P := Tryd.prog) (w := W') (base := b) (sp := sp) (held := hd) (s := s) Tryd.underlying9 hs
  simpa using shut_agg3 (enc := enc) (w := W') (base := b) (spare := sp) (held := hd) (y0 := (.lit (.bool x), [])) (y1 := (.lit (.string s.data.toList), [])) (y2 := (.lit (.int .i64 n), [])) Tryd.underlying24 (by kernel_rfl) (by kernel_rfl)
    ⟨1, by simp [DataW.trod, Tryd.underlying4]⟩ ⟨n1, by simpa [Value.cells] using h1⟩ ⟨1, by simp [DataW.trod, Tryd.underlying3, hn]⟩
end Frame
end Go.Proofs.YtbgigckmehgcpaaDoor
