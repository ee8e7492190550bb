/-
  No cell of these rows narrows 'for every input' (looked for: loops, veiled, ifaces, maps, wideKeys, modest, calm, conditions, laid).
  DERIVED. THE GIVEN ROWS OF THIS SEAT. 10 by the template 'for every input the law returns true; each argument reads behind the call as it read before'; 0 by the template 'total and deterministic' (their statements: YtlgammcbhgmpoaaTotals.lean).
  GIVEN WITH THE SEED: the statements are not yours to turn. If you find one false, say at which input.
  Laid BY PROGRAM, IN A SANDBOX (cutbox-rows.mjs): the forced cells as the released guide's own fill.sh prints them over the translation 9d12c31a31fee6aa… (all of the seat's roots in one cut). By AI agents, Wed Nov 11 2026. No macro, syntax, notation, axiom, sorry.
-/
import Derived.Test.YtlgammcbhgmpoaaChecked
import GoSem.Claim
import GoSem.ClaimJoined
import GoSem.ClaimMapViews
import Derived.JoinedTies
import Derived.KernelRfl
namespace Go.Proofs.Ytlgammcbhgmpoaa
/- THE CELL 'sum', in the pinned program and in every row, IS THE sha256 OF THE DUMP (.gsa) THAT YtlgammcbhgmpoaaProg.lean LOADS. Nothing in Lean hashes anything: it is a label: what it is worth is what the hold of that sum in a sandbox is worth. -/
noncomputable def Try.pinned : Pinned := { name := "ytlgammcbhgmpoaa", sum := "9d12c31a31fee6aaafc499c3789b84600cdbe459ca17c684ba1b3c5d09153920", checked := Try.checked }
namespace Rows
def none {H : Type} : Left H := { results := [], args := [] }

/-- 'rubricatorlaw02.CrcOf': WHATEVER THE INPUT: true; the input reads as it did. -/
def crcOfSpec : ChangeSpec := { name := "crcOf", fn := fun _ => fun
  | [d1, d2] => { results := [.lit (.bool true)], args := [d1, d2] }
  | _ => none }
def crcOfRow : OpenClaim := { program := "ytlgammcbhgmpoaa", sum := "9d12c31a31fee6aaafc499c3789b84600cdbe459ca17c684ba1b3c5d09153920", func := "rubricator/rubricatorlaw02.CrcOf", spec := "crcOf", apart := false }
def CrcOfSaid : Prop := crcOfRow.holds Try.pinned (OpenSpec.ofChange crcOfSpec)

/-- ITS FALSE NEIGHBOUR: 'it returns false'. Refute it at one input. -/
def crcOfWrong : ChangeSpec := { name := "crcOf", fn := fun _ => fun
  | [d1, d2] => { results := [.lit (.bool false)], args := [d1, d2] }
  | _ => none }
def CrcOfWrongFalsely : Prop := crcOfRow.holds Try.pinned (OpenSpec.ofChange crcOfWrong)

/-- 'rubricatorlaw02.CrcBurst': WHATEVER THE INPUT: true; the input reads as it did. -/
def crcBurstSpec : ChangeSpec := { name := "crcBurst", fn := fun _ => fun
  | [d1, d2, d3] => { results := [.lit (.bool true)], args := [d1, d2, d3] }
  | _ => none }
def crcBurstRow : OpenClaim := { program := "ytlgammcbhgmpoaa", sum := "9d12c31a31fee6aaafc499c3789b84600cdbe459ca17c684ba1b3c5d09153920", func := "rubricator/rubricatorlaw02.CrcBurst", spec := "crcBurst", apart := false }
def CrcBurstSaid : Prop := crcBurstRow.holds Try.pinned (OpenSpec.ofChange crcBurstSpec)

/-- ITS FALSE NEIGHBOUR: 'it returns false'. Refute it at one input. -/
def crcBurstWrong : ChangeSpec := { name := "crcBurst", fn := fun _ => fun
  | [d1, d2, d3] => { results := [.lit (.bool false)], args := [d1, d2, d3] }
  | _ => none }
def CrcBurstWrongFalsely : Prop := crcBurstRow.holds Try.pinned (OpenSpec.ofChange crcBurstWrong)

/-- 'rubricatorlaw02.CrcLinear': WHATEVER THE INPUT: true; the input reads as it did. -/
def crcLinearSpec : ChangeSpec := { name := "crcLinear", fn := fun _ => fun
  | [d1, d2, d3] => { results := [.lit (.bool true)], args := [d1, d2, d3] }
  | _ => none }
def crcLinearRow : OpenClaim := { program := "ytlgammcbhgmpoaa", sum := "9d12c31a31fee6aaafc499c3789b84600cdbe459ca17c684ba1b3c5d09153920", func := "rubricator/rubricatorlaw02.CrcLinear", spec := "crcLinear", apart := false }
def CrcLinearSaid : Prop := crcLinearRow.holds Try.pinned (OpenSpec.ofChange crcLinearSpec)

/-- ITS FALSE NEIGHBOUR: 'it returns false'. Refute it at one input. -/
def crcLinearWrong : ChangeSpec := { name := "crcLinear", fn := fun _ => fun
  | [d1, d2, d3] => { results := [.lit (.bool false)], args := [d1, d2, d3] }
  | _ => none }
def CrcLinearWrongFalsely : Prop := crcLinearRow.holds Try.pinned (OpenSpec.ofChange crcLinearWrong)

/-- 'rubricatorlaw02.CrcEnds': WHATEVER THE INPUT: true; the input reads as it did. -/
def crcEndsSpec : ChangeSpec := { name := "crcEnds", fn := fun _ => fun
  | [d] => { results := [.lit (.bool true)], args := [d] }
  | _ => none }
def crcEndsRow : OpenClaim := { program := "ytlgammcbhgmpoaa", sum := "9d12c31a31fee6aaafc499c3789b84600cdbe459ca17c684ba1b3c5d09153920", func := "rubricator/rubricatorlaw02.CrcEnds", spec := "crcEnds", apart := false }
def CrcEndsSaid : Prop := crcEndsRow.holds Try.pinned (OpenSpec.ofChange crcEndsSpec)

/-- ITS FALSE NEIGHBOUR: 'it returns false'. Refute it at one input. -/
def crcEndsWrong : ChangeSpec := { name := "crcEnds", fn := fun _ => fun
  | [d] => { results := [.lit (.bool false)], args := [d] }
  | _ => none }
def CrcEndsWrongFalsely : Prop := crcEndsRow.holds Try.pinned (OpenSpec.ofChange crcEndsWrong)

/-- 'rubricatorlaw02.CrcNoughts': WHATEVER THE INPUT: true; the input reads as it did. -/
def crcNoughtsSpec : ChangeSpec := { name := "crcNoughts", fn := fun _ => fun
  | [d1, d2] => { results := [.lit (.bool true)], args := [d1, d2] }
  | _ => none }
def crcNoughtsRow : OpenClaim := { program := "ytlgammcbhgmpoaa", sum := "9d12c31a31fee6aaafc499c3789b84600cdbe459ca17c684ba1b3c5d09153920", func := "rubricator/rubricatorlaw02.CrcNoughts", spec := "crcNoughts", apart := false }
def CrcNoughtsSaid : Prop := crcNoughtsRow.holds Try.pinned (OpenSpec.ofChange crcNoughtsSpec)

/-- ITS FALSE NEIGHBOUR: 'it returns false'. Refute it at one input. -/
def crcNoughtsWrong : ChangeSpec := { name := "crcNoughts", fn := fun _ => fun
  | [d1, d2] => { results := [.lit (.bool false)], args := [d1, d2] }
  | _ => none }
def CrcNoughtsWrongFalsely : Prop := crcNoughtsRow.holds Try.pinned (OpenSpec.ofChange crcNoughtsWrong)

/-- 'rubricatorlaw09.ReadersPlays': WHATEVER THE INPUT: true; the input reads as it did. -/
def readersPlaysSpec : ChangeSpec := { name := "readersPlays", fn := fun _ => fun
  | [d1, d2] => { results := [.lit (.bool true)], args := [d1, d2] }
  | _ => none }
def readersPlaysRow : OpenClaim := { program := "ytlgammcbhgmpoaa", sum := "9d12c31a31fee6aaafc499c3789b84600cdbe459ca17c684ba1b3c5d09153920", func := "rubricator/rubricatorlaw09.ReadersPlays", spec := "readersPlays", inPlace := ["sync/atomic.CompareAndSwapUint32", "sync/atomic.StoreUint64", "sync/atomic.StoreUint32", "sync/atomic.AddUint64", "sync/atomic.LoadUint32", "sync/atomic.LoadUint64"], apart := false }
def ReadersPlaysSaid : Prop := readersPlaysRow.holds Try.pinned (OpenSpec.ofChange readersPlaysSpec)

/-- ITS FALSE NEIGHBOUR: 'it returns false'. Refute it at one input. -/
def readersPlaysWrong : ChangeSpec := { name := "readersPlays", fn := fun _ => fun
  | [d1, d2] => { results := [.lit (.bool false)], args := [d1, d2] }
  | _ => none }
def ReadersPlaysWrongFalsely : Prop := readersPlaysRow.holds Try.pinned (OpenSpec.ofChange readersPlaysWrong)

/-- 'rubricatorlaw09.ReadersGone': WHATEVER THE INPUT: true; the input reads as it did. -/
def readersGoneSpec : ChangeSpec := { name := "readersGone", fn := fun _ => fun
  | [d1, d2, d3, d4] => { results := [.lit (.bool true)], args := [d1, d2, d3, d4] }
  | _ => none }
def readersGoneRow : OpenClaim := { program := "ytlgammcbhgmpoaa", sum := "9d12c31a31fee6aaafc499c3789b84600cdbe459ca17c684ba1b3c5d09153920", func := "rubricator/rubricatorlaw09.ReadersGone", spec := "readersGone", inPlace := ["sync/atomic.CompareAndSwapUint32", "sync/atomic.StoreUint64", "sync/atomic.StoreUint32", "sync/atomic.AddUint64", "sync/atomic.LoadUint32", "sync/atomic.LoadUint64"], apart := false }
def ReadersGoneSaid : Prop := readersGoneRow.holds Try.pinned (OpenSpec.ofChange readersGoneSpec)

/-- ITS FALSE NEIGHBOUR: 'it returns false'. Refute it at one input. -/
def readersGoneWrong : ChangeSpec := { name := "readersGone", fn := fun _ => fun
  | [d1, d2, d3, d4] => { results := [.lit (.bool false)], args := [d1, d2, d3, d4] }
  | _ => none }
def ReadersGoneWrongFalsely : Prop := readersGoneRow.holds Try.pinned (OpenSpec.ofChange readersGoneWrong)

/-- 'rubricatorlaw09.ReadersOldest': WHATEVER THE INPUT: true; the input reads as it did. -/
def readersOldestSpec : ChangeSpec := { name := "readersOldest", fn := fun _ => fun
  | [d1, d2, d3] => { results := [.lit (.bool true)], args := [d1, d2, d3] }
  | _ => none }
def readersOldestRow : OpenClaim := { program := "ytlgammcbhgmpoaa", sum := "9d12c31a31fee6aaafc499c3789b84600cdbe459ca17c684ba1b3c5d09153920", func := "rubricator/rubricatorlaw09.ReadersOldest", spec := "readersOldest", inPlace := ["sync/atomic.CompareAndSwapUint32", "sync/atomic.StoreUint64", "sync/atomic.StoreUint32", "sync/atomic.AddUint64", "sync/atomic.LoadUint32", "sync/atomic.LoadUint64"], apart := false }
def ReadersOldestSaid : Prop := readersOldestRow.holds Try.pinned (OpenSpec.ofChange readersOldestSpec)

/-- ITS FALSE NEIGHBOUR: 'it returns false'. Refute it at one input. -/
def readersOldestWrong : ChangeSpec := { name := "readersOldest", fn := fun _ => fun
  | [d1, d2, d3] => { results := [.lit (.bool false)], args := [d1, d2, d3] }
  | _ => none }
def ReadersOldestWrongFalsely : Prop := readersOldestRow.holds Try.pinned (OpenSpec.ofChange readersOldestWrong)

/-- 'rubricatorlaw09.ReadersSlots': WHATEVER THE INPUT: true; the input reads as it did. -/
def readersSlotsSpec : ChangeSpec := { name := "readersSlots", fn := fun _ => fun
  | [d1, d2] => { results := [.lit (.bool true)], args := [d1, d2] }
  | _ => none }
def readersSlotsRow : OpenClaim := { program := "ytlgammcbhgmpoaa", sum := "9d12c31a31fee6aaafc499c3789b84600cdbe459ca17c684ba1b3c5d09153920", func := "rubricator/rubricatorlaw09.ReadersSlots", spec := "readersSlots", inPlace := ["sync/atomic.CompareAndSwapUint32", "sync/atomic.StoreUint64", "sync/atomic.StoreUint32", "sync/atomic.AddUint64", "sync/atomic.LoadUint32", "sync/atomic.LoadUint64"], apart := false }
def ReadersSlotsSaid : Prop := readersSlotsRow.holds Try.pinned (OpenSpec.ofChange readersSlotsSpec)

/-- ITS FALSE NEIGHBOUR: 'it returns false'. Refute it at one input. -/
def readersSlotsWrong : ChangeSpec := { name := "readersSlots", fn := fun _ => fun
  | [d1, d2] => { results := [.lit (.bool false)], args := [d1, d2] }
  | _ => none }
def ReadersSlotsWrongFalsely : Prop := readersSlotsRow.holds Try.pinned (OpenSpec.ofChange readersSlotsWrong)

/-- 'rubricatorlaw09.ReadersDying': WHATEVER THE INPUT: true; the input reads as it did. -/
def readersDyingSpec : ChangeSpec := { name := "readersDying", fn := fun _ => fun
  | [d1, d2] => { results := [.lit (.bool true)], args := [d1, d2] }
  | _ => none }
def readersDyingRow : OpenClaim := { program := "ytlgammcbhgmpoaa", sum := "9d12c31a31fee6aaafc499c3789b84600cdbe459ca17c684ba1b3c5d09153920", func := "rubricator/rubricatorlaw09.ReadersDying", spec := "readersDying", inPlace := ["sync/atomic.CompareAndSwapUint32", "sync/atomic.StoreUint64", "sync/atomic.StoreUint32", "sync/atomic.AddUint64", "sync/atomic.LoadUint32", "sync/atomic.LoadUint64"], apart := false }
def ReadersDyingSaid : Prop := readersDyingRow.holds Try.pinned (OpenSpec.ofChange readersDyingSpec)

/-- ITS FALSE NEIGHBOUR: 'it returns false'. Refute it at one input. -/
def readersDyingWrong : ChangeSpec := { name := "readersDying", fn := fun _ => fun
  | [d1, d2] => { results := [.lit (.bool false)], args := [d1, d2] }
  | _ => none }
def ReadersDyingWrongFalsely : Prop := readersDyingRow.holds Try.pinned (OpenSpec.ofChange readersDyingWrong)

/- THE SECOND FORM. 'bulk': how many values and letters a reading holds, each counted each time it is reached (what is shared counts as often as it is met; a slice's spare places count too). A statement '..UptoSaid' is the law's where the arguments, and the package variables that the reading takes, are together of bulk at most 1048576: NARROWER than '..Said'. Prove '..Said' where nothing that the law and all that it calls make is longer than what came in: it says more and counts as full. Else prove '..UptoSaid'. A law counts once. -/
mutual
def uptoBulk {H : Type} : DataW H → Nat
  | .lit (.string bytes) => bytes.length + 1
  | .lit _ => 1
  | .nil => 1
  | .ptr d => uptoBulk d + 1
  | .slice elems spare => uptoBulkAll elems + uptoBulkAll spare + 1
  | .agg parts => uptoBulkAll parts + 1
  | .iface _ d => uptoBulk d + 1
  | .map entries => uptoBulkEntries entries + 1
  | .held _ => 1
def uptoBulkAll {H : Type} : List (DataW H) → Nat
  | [] => 0
  | d :: r => uptoBulk d + uptoBulkAll r
def uptoBulkEntries {H : Type} : List (Lit × DataW H) → Nat
  | [] => 0
  | x :: r => uptoBulkEntry x + uptoBulkEntries r
def uptoBulkEntry {H : Type} : Lit × DataW H → Nat
  | (.string bytes, d) => bytes.length + uptoBulk d + 1
  | (_, d) => uptoBulk d + 1
 end
def uptoSmall : (H : Type) → List (DataW H) → Bool := fun _ ds => decide (uptoBulkAll ds ≤ 1048576)
def OpenSpec.upto (s : _root_.Go.ChangeSpec) : _root_.Go.OpenSpec := { _root_.Go.OpenSpec.ofChange s with cond := some uptoSmall }

/-- 'rubricatorlaw02.CrcOf', WHERE WHAT IT READS IS OF BULK AT MOST 1048576: true; the input reads as it did. -/
def crcOfUptoRow : OpenClaim := { program := "ytlgammcbhgmpoaa", sum := "9d12c31a31fee6aaafc499c3789b84600cdbe459ca17c684ba1b3c5d09153920", func := "rubricator/rubricatorlaw02.CrcOf", spec := "crcOf", apart := false, narrowed := true }
def CrcOfUptoSaid : Prop := crcOfUptoRow.holds Try.pinned (OpenSpec.upto crcOfSpec)

/-- 'rubricatorlaw02.CrcBurst', WHERE WHAT IT READS IS OF BULK AT MOST 1048576: true; the input reads as it did. -/
def crcBurstUptoRow : OpenClaim := { program := "ytlgammcbhgmpoaa", sum := "9d12c31a31fee6aaafc499c3789b84600cdbe459ca17c684ba1b3c5d09153920", func := "rubricator/rubricatorlaw02.CrcBurst", spec := "crcBurst", apart := false, narrowed := true }
def CrcBurstUptoSaid : Prop := crcBurstUptoRow.holds Try.pinned (OpenSpec.upto crcBurstSpec)

/-- 'rubricatorlaw02.CrcLinear', WHERE WHAT IT READS IS OF BULK AT MOST 1048576: true; the input reads as it did. -/
def crcLinearUptoRow : OpenClaim := { program := "ytlgammcbhgmpoaa", sum := "9d12c31a31fee6aaafc499c3789b84600cdbe459ca17c684ba1b3c5d09153920", func := "rubricator/rubricatorlaw02.CrcLinear", spec := "crcLinear", apart := false, narrowed := true }
def CrcLinearUptoSaid : Prop := crcLinearUptoRow.holds Try.pinned (OpenSpec.upto crcLinearSpec)

/-- 'rubricatorlaw02.CrcEnds', WHERE WHAT IT READS IS OF BULK AT MOST 1048576: true; the input reads as it did. -/
def crcEndsUptoRow : OpenClaim := { program := "ytlgammcbhgmpoaa", sum := "9d12c31a31fee6aaafc499c3789b84600cdbe459ca17c684ba1b3c5d09153920", func := "rubricator/rubricatorlaw02.CrcEnds", spec := "crcEnds", apart := false, narrowed := true }
def CrcEndsUptoSaid : Prop := crcEndsUptoRow.holds Try.pinned (OpenSpec.upto crcEndsSpec)

/-- 'rubricatorlaw02.CrcNoughts', WHERE WHAT IT READS IS OF BULK AT MOST 1048576: true; the input reads as it did. -/
def crcNoughtsUptoRow : OpenClaim := { program := "ytlgammcbhgmpoaa", sum := "9d12c31a31fee6aaafc499c3789b84600cdbe459ca17c684ba1b3c5d09153920", func := "rubricator/rubricatorlaw02.CrcNoughts", spec := "crcNoughts", apart := false, narrowed := true }
def CrcNoughtsUptoSaid : Prop := crcNoughtsUptoRow.holds Try.pinned (OpenSpec.upto crcNoughtsSpec)

/-- 'rubricatorlaw09.ReadersPlays', WHERE WHAT IT READS IS OF BULK AT MOST 1048576: true; the input reads as it did. -/
def readersPlaysUptoRow : OpenClaim := { program := "ytlgammcbhgmpoaa", sum := "9d12c31a31fee6aaafc499c3789b84600cdbe459ca17c684ba1b3c5d09153920", func := "rubricator/rubricatorlaw09.ReadersPlays", spec := "readersPlays", inPlace := ["sync/atomic.CompareAndSwapUint32", "sync/atomic.StoreUint64", "sync/atomic.StoreUint32", "sync/atomic.AddUint64", "sync/atomic.LoadUint32", "sync/atomic.LoadUint64"], apart := false, narrowed := true }
def ReadersPlaysUptoSaid : Prop := readersPlaysUptoRow.holds Try.pinned (OpenSpec.upto readersPlaysSpec)

/-- 'rubricatorlaw09.ReadersGone', WHERE WHAT IT READS IS OF BULK AT MOST 1048576: true; the input reads as it did. -/
def readersGoneUptoRow : OpenClaim := { program := "ytlgammcbhgmpoaa", sum := "9d12c31a31fee6aaafc499c3789b84600cdbe459ca17c684ba1b3c5d09153920", func := "rubricator/rubricatorlaw09.ReadersGone", spec := "readersGone", inPlace := ["sync/atomic.CompareAndSwapUint32", "sync/atomic.StoreUint64", "sync/atomic.StoreUint32", "sync/atomic.AddUint64", "sync/atomic.LoadUint32", "sync/atomic.LoadUint64"], apart := false, narrowed := true }
def ReadersGoneUptoSaid : Prop := readersGoneUptoRow.holds Try.pinned (OpenSpec.upto readersGoneSpec)

/-- 'rubricatorlaw09.ReadersOldest', WHERE WHAT IT READS IS OF BULK AT MOST 1048576: true; the input reads as it did. -/
def readersOldestUptoRow : OpenClaim := { program := "ytlgammcbhgmpoaa", sum := "9d12c31a31fee6aaafc499c3789b84600cdbe459ca17c684ba1b3c5d09153920", func := "rubricator/rubricatorlaw09.ReadersOldest", spec := "readersOldest", inPlace := ["sync/atomic.CompareAndSwapUint32", "sync/atomic.StoreUint64", "sync/atomic.StoreUint32", "sync/atomic.AddUint64", "sync/atomic.LoadUint32", "sync/atomic.LoadUint64"], apart := false, narrowed := true }
def ReadersOldestUptoSaid : Prop := readersOldestUptoRow.holds Try.pinned (OpenSpec.upto readersOldestSpec)

/-- 'rubricatorlaw09.ReadersSlots', WHERE WHAT IT READS IS OF BULK AT MOST 1048576: true; the input reads as it did. -/
def readersSlotsUptoRow : OpenClaim := { program := "ytlgammcbhgmpoaa", sum := "9d12c31a31fee6aaafc499c3789b84600cdbe459ca17c684ba1b3c5d09153920", func := "rubricator/rubricatorlaw09.ReadersSlots", spec := "readersSlots", inPlace := ["sync/atomic.CompareAndSwapUint32", "sync/atomic.StoreUint64", "sync/atomic.StoreUint32", "sync/atomic.AddUint64", "sync/atomic.LoadUint32", "sync/atomic.LoadUint64"], apart := false, narrowed := true }
def ReadersSlotsUptoSaid : Prop := readersSlotsUptoRow.holds Try.pinned (OpenSpec.upto readersSlotsSpec)

/-- 'rubricatorlaw09.ReadersDying', WHERE WHAT IT READS IS OF BULK AT MOST 1048576: true; the input reads as it did. -/
def readersDyingUptoRow : OpenClaim := { program := "ytlgammcbhgmpoaa", sum := "9d12c31a31fee6aaafc499c3789b84600cdbe459ca17c684ba1b3c5d09153920", func := "rubricator/rubricatorlaw09.ReadersDying", spec := "readersDying", inPlace := ["sync/atomic.CompareAndSwapUint32", "sync/atomic.StoreUint64", "sync/atomic.StoreUint32", "sync/atomic.AddUint64", "sync/atomic.LoadUint32", "sync/atomic.LoadUint64"], apart := false, narrowed := true }
def ReadersDyingUptoSaid : Prop := readersDyingUptoRow.holds Try.pinned (OpenSpec.upto readersDyingSpec)

end Rows
end Go.Proofs.Ytlgammcbhgmpoaa
