/-
  No cell of these rows narrows 'for every input' (looked for: loops, veiled, ifaces, maps, wideKeys, modest, calm, conditions, laid).
  DERIVED. THE GIVEN ROWS OF THIS SEAT. 5 by the template 'for every input the law returns true; each argument reads behind the call as it read before'; 0 by the template 'total and deterministic' (their statements: YtapjkdmdckfjbaaTotals.lean).
  GIVEN WITH THE SEED: the statements are not yours to turn. If you find one false, say at which input.
  Laid BY PROGRAM, IN A SANDBOX (cutbox-rows.mjs): the forced cells as the released guide's own fill.sh prints them over the translation 5e49c51966408c16… (all of the seat's roots in one cut). By AI agents, Wed Nov 11 2026. No macro, syntax, notation, axiom, sorry.
-/
import Derived.Test.YtapjkdmdckfjbaaChecked
import GoSem.Claim
import GoSem.ClaimJoined
import GoSem.ClaimMapViews
import Derived.JoinedTies
import Derived.KernelRfl
namespace Go.Proofs.Ytapjkdmdckfjbaa
/- THE CELL 'sum', in the pinned program and in every row, IS THE sha256 OF THE DUMP (.gsa) THAT YtapjkdmdckfjbaaProg.lean LOADS. Nothing in Lean hashes anything: it is a label: what it is worth is what the hold of that sum in a sandbox is worth. -/
noncomputable def Try.pinned : Pinned := { name := "ytapjkdmdckfjbaa", sum := "5e49c51966408c16e5ba77048a5a01b29774d9699a2335e2d59ef4948615533f", checked := Try.checked }
namespace Rows
def none {H : Type} : Left H := { results := [], args := [] }

/-- 'yashmaklaw01.OctetPuts': WHATEVER THE INPUT: true; the input reads as it did. -/
def octetPutsSpec : ChangeSpec := { name := "octetPuts", fn := fun _ => fun
  | [d1, d2, d3, d4] => { results := [.lit (.bool true)], args := [d1, d2, d3, d4] }
  | _ => none }
def octetPutsRow : OpenClaim := { program := "ytapjkdmdckfjbaa", sum := "5e49c51966408c16e5ba77048a5a01b29774d9699a2335e2d59ef4948615533f", func := "yashmak/yashmaklaw01.OctetPuts", spec := "octetPuts", inPlace := ["internal/bytealg.Compare"], unfollowed := true, recurses := true, apart := false }
def OctetPutsSaid : Prop := octetPutsRow.holds Try.pinned (OpenSpec.ofChange octetPutsSpec)

/-- ITS FALSE NEIGHBOUR: 'it returns false'. Refute it at one input. -/
def octetPutsWrong : ChangeSpec := { name := "octetPuts", fn := fun _ => fun
  | [d1, d2, d3, d4] => { results := [.lit (.bool false)], args := [d1, d2, d3, d4] }
  | _ => none }
def OctetPutsWrongFalsely : Prop := octetPutsRow.holds Try.pinned (OpenSpec.ofChange octetPutsWrong)

/-- 'yashmaklaw01.OctetBits': WHATEVER THE INPUT: true; the input reads as it did. -/
def octetBitsSpec : ChangeSpec := { name := "octetBits", fn := fun _ => fun
  | [d1, d2, d3] => { results := [.lit (.bool true)], args := [d1, d2, d3] }
  | _ => none }
def octetBitsRow : OpenClaim := { program := "ytapjkdmdckfjbaa", sum := "5e49c51966408c16e5ba77048a5a01b29774d9699a2335e2d59ef4948615533f", func := "yashmak/yashmaklaw01.OctetBits", spec := "octetBits", inPlace := ["internal/bytealg.Compare"], unfollowed := true, recurses := true, apart := false }
def OctetBitsSaid : Prop := octetBitsRow.holds Try.pinned (OpenSpec.ofChange octetBitsSpec)

/-- ITS FALSE NEIGHBOUR: 'it returns false'. Refute it at one input. -/
def octetBitsWrong : ChangeSpec := { name := "octetBits", fn := fun _ => fun
  | [d1, d2, d3] => { results := [.lit (.bool false)], args := [d1, d2, d3] }
  | _ => none }
def OctetBitsWrongFalsely : Prop := octetBitsRow.holds Try.pinned (OpenSpec.ofChange octetBitsWrong)

/-- 'yashmaklaw01.OctetBack': WHATEVER THE INPUT: true; the input reads as it did. -/
def octetBackSpec : ChangeSpec := { name := "octetBack", fn := fun _ => fun
  | [d1, d2, d3] => { results := [.lit (.bool true)], args := [d1, d2, d3] }
  | _ => none }
def octetBackRow : OpenClaim := { program := "ytapjkdmdckfjbaa", sum := "5e49c51966408c16e5ba77048a5a01b29774d9699a2335e2d59ef4948615533f", func := "yashmak/yashmaklaw01.OctetBack", spec := "octetBack", inPlace := ["internal/bytealg.Compare"], unfollowed := true, recurses := true, apart := false }
def OctetBackSaid : Prop := octetBackRow.holds Try.pinned (OpenSpec.ofChange octetBackSpec)

/-- ITS FALSE NEIGHBOUR: 'it returns false'. Refute it at one input. -/
def octetBackWrong : ChangeSpec := { name := "octetBack", fn := fun _ => fun
  | [d1, d2, d3] => { results := [.lit (.bool false)], args := [d1, d2, d3] }
  | _ => none }
def OctetBackWrongFalsely : Prop := octetBackRow.holds Try.pinned (OpenSpec.ofChange octetBackWrong)

/-- 'yashmaklaw01.OctetOrder': WHATEVER THE INPUT: true; the input reads as it did. -/
def octetOrderSpec : ChangeSpec := { name := "octetOrder", fn := fun _ => fun
  | [d1, d2, d3] => { results := [.lit (.bool true)], args := [d1, d2, d3] }
  | _ => none }
def octetOrderRow : OpenClaim := { program := "ytapjkdmdckfjbaa", sum := "5e49c51966408c16e5ba77048a5a01b29774d9699a2335e2d59ef4948615533f", func := "yashmak/yashmaklaw01.OctetOrder", spec := "octetOrder", inPlace := ["internal/bytealg.Compare"], unfollowed := true, recurses := true, apart := false }
def OctetOrderSaid : Prop := octetOrderRow.holds Try.pinned (OpenSpec.ofChange octetOrderSpec)

/-- ITS FALSE NEIGHBOUR: 'it returns false'. Refute it at one input. -/
def octetOrderWrong : ChangeSpec := { name := "octetOrder", fn := fun _ => fun
  | [d1, d2, d3] => { results := [.lit (.bool false)], args := [d1, d2, d3] }
  | _ => none }
def OctetOrderWrongFalsely : Prop := octetOrderRow.holds Try.pinned (OpenSpec.ofChange octetOrderWrong)

/-- 'yashmaklaw01.OctetKeys': WHATEVER THE INPUT: true; the input reads as it did. -/
def octetKeysSpec : ChangeSpec := { name := "octetKeys", fn := fun _ => fun
  | [d1, d2, d3] => { results := [.lit (.bool true)], args := [d1, d2, d3] }
  | _ => none }
def octetKeysRow : OpenClaim := { program := "ytapjkdmdckfjbaa", sum := "5e49c51966408c16e5ba77048a5a01b29774d9699a2335e2d59ef4948615533f", func := "yashmak/yashmaklaw01.OctetKeys", spec := "octetKeys", inPlace := ["internal/bytealg.Compare"], unfollowed := true, recurses := true, apart := false }
def OctetKeysSaid : Prop := octetKeysRow.holds Try.pinned (OpenSpec.ofChange octetKeysSpec)

/-- ITS FALSE NEIGHBOUR: 'it returns false'. Refute it at one input. -/
def octetKeysWrong : ChangeSpec := { name := "octetKeys", fn := fun _ => fun
  | [d1, d2, d3] => { results := [.lit (.bool false)], args := [d1, d2, d3] }
  | _ => none }
def OctetKeysWrongFalsely : Prop := octetKeysRow.holds Try.pinned (OpenSpec.ofChange octetKeysWrong)

/- THE SECOND FORM. 'bulk': how many values and letters a reading holds, each counted each time it is reached (what is shared counts as often as it is met; a slice's spare places count too). A statement '..UptoSaid' is the law's where the arguments, and the package variables that the reading takes, are together of bulk at most 1048576: NARROWER than '..Said'. Prove '..Said' where nothing that the law and all that it calls make is longer than what came in: it says more and counts as full. Else prove '..UptoSaid'. A law counts once. -/
mutual
def uptoBulk {H : Type} : DataW H → Nat
  | .lit (.string bytes) => bytes.length + 1
  | .lit _ => 1
  | .nil => 1
  | .ptr d => uptoBulk d + 1
  | .slice elems spare => uptoBulkAll elems + uptoBulkAll spare + 1
  | .agg parts => uptoBulkAll parts + 1
  | .iface _ d => uptoBulk d + 1
  | .map entries => uptoBulkEntries entries + 1
  | .held _ => 1
def uptoBulkAll {H : Type} : List (DataW H) → Nat
  | [] => 0
  | d :: r => uptoBulk d + uptoBulkAll r
def uptoBulkEntries {H : Type} : List (Lit × DataW H) → Nat
  | [] => 0
  | x :: r => uptoBulkEntry x + uptoBulkEntries r
def uptoBulkEntry {H : Type} : Lit × DataW H → Nat
  | (.string bytes, d) => bytes.length + uptoBulk d + 1
  | (_, d) => uptoBulk d + 1
 end
def uptoSmall : (H : Type) → List (DataW H) → Bool := fun _ ds => decide (uptoBulkAll ds ≤ 1048576)
def OpenSpec.upto (s : _root_.Go.ChangeSpec) : _root_.Go.OpenSpec := { _root_.Go.OpenSpec.ofChange s with cond := some uptoSmall }

/-- 'yashmaklaw01.OctetPuts', WHERE WHAT IT READS IS OF BULK AT MOST 1048576: true; the input reads as it did. -/
def octetPutsUptoRow : OpenClaim := { program := "ytapjkdmdckfjbaa", sum := "5e49c51966408c16e5ba77048a5a01b29774d9699a2335e2d59ef4948615533f", func := "yashmak/yashmaklaw01.OctetPuts", spec := "octetPuts", inPlace := ["internal/bytealg.Compare"], unfollowed := true, recurses := true, apart := false, narrowed := true }
def OctetPutsUptoSaid : Prop := octetPutsUptoRow.holds Try.pinned (OpenSpec.upto octetPutsSpec)

/-- 'yashmaklaw01.OctetBits', WHERE WHAT IT READS IS OF BULK AT MOST 1048576: true; the input reads as it did. -/
def octetBitsUptoRow : OpenClaim := { program := "ytapjkdmdckfjbaa", sum := "5e49c51966408c16e5ba77048a5a01b29774d9699a2335e2d59ef4948615533f", func := "yashmak/yashmaklaw01.OctetBits", spec := "octetBits", inPlace := ["internal/bytealg.Compare"], unfollowed := true, recurses := true, apart := false, narrowed := true }
def OctetBitsUptoSaid : Prop := octetBitsUptoRow.holds Try.pinned (OpenSpec.upto octetBitsSpec)

/-- 'yashmaklaw01.OctetBack', WHERE WHAT IT READS IS OF BULK AT MOST 1048576: true; the input reads as it did. -/
def octetBackUptoRow : OpenClaim := { program := "ytapjkdmdckfjbaa", sum := "5e49c51966408c16e5ba77048a5a01b29774d9699a2335e2d59ef4948615533f", func := "yashmak/yashmaklaw01.OctetBack", spec := "octetBack", inPlace := ["internal/bytealg.Compare"], unfollowed := true, recurses := true, apart := false, narrowed := true }
def OctetBackUptoSaid : Prop := octetBackUptoRow.holds Try.pinned (OpenSpec.upto octetBackSpec)

/-- 'yashmaklaw01.OctetOrder', WHERE WHAT IT READS IS OF BULK AT MOST 1048576: true; the input reads as it did. -/
def octetOrderUptoRow : OpenClaim := { program := "ytapjkdmdckfjbaa", sum := "5e49c51966408c16e5ba77048a5a01b29774d9699a2335e2d59ef4948615533f", func := "yashmak/yashmaklaw01.OctetOrder", spec := "octetOrder", inPlace := ["internal/bytealg.Compare"], unfollowed := true, recurses := true, apart := false, narrowed := true }
def OctetOrderUptoSaid : Prop := octetOrderUptoRow.holds Try.pinned (OpenSpec.upto octetOrderSpec)

/-- 'yashmaklaw01.OctetKeys', WHERE WHAT IT READS IS OF BULK AT MOST 1048576: true; the input reads as it did. -/
def octetKeysUptoRow : OpenClaim := { program := "ytapjkdmdckfjbaa", sum := "5e49c51966408c16e5ba77048a5a01b29774d9699a2335e2d59ef4948615533f", func := "yashmak/yashmaklaw01.OctetKeys", spec := "octetKeys", inPlace := ["internal/bytealg.Compare"], unfollowed := true, recurses := true, apart := false, narrowed := true }
def OctetKeysUptoSaid : Prop := octetKeysUptoRow.holds Try.pinned (OpenSpec.upto octetKeysSpec)

end Rows
end Go.Proofs.Ytapjkdmdckfjbaa
