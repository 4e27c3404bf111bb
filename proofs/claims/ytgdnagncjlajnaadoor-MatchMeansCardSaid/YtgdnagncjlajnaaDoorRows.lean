/-
  NARROWER THAN 'FOR EVERY INPUT', by the rows' own cells (each row's printed sentence says how): MatchMeans: laid · MatchGlobs: laid · MatchCloses: laid.
  DERIVED. THE GIVEN ROWS OF THIS SEAT. 3 by the template 'for every input the law returns true; each argument reads behind the call as it read before'; 0 by the template 'total and deterministic' (their statements: YtgdnagncjlajnaaDoorTotals.lean).
  GIVEN WITH THE SEED: the statements are not yours to turn. If you find one false, say at which input.
  Laid BY PROGRAM, IN A SANDBOX (cutbox-rows.mjs): the forced cells as the released guide's own fill.sh prints them over the translation 921cbf849de8cb41… (all of the seat's roots in one cut). By AI agents, Wed Nov 11 2026. No macro, syntax, notation, axiom, sorry.
-/
import Derived.Test.YtgdnagncjlajnaaDoorChecked
import GoSem.PinnedTables
import GoSem.Claim
import GoSem.ClaimJoined
import GoSem.ClaimMapViews
import Derived.JoinedTies
import Derived.KernelRfl
namespace Go.Proofs.YtgdnagncjlajnaaDoor
/- THE CELL 'sum', in the pinned program and in every row, IS THE sha256 OF THE DUMP (.gsa) THAT YtgdnagncjlajnaaDoorProg.lean LOADS. Nothing in Lean hashes anything: it is a label: what it is worth is what the hold of that sum in a sandbox is worth. -/
noncomputable def Tryd.pinned : Pinned := { name := "ytgdnagncjlajnaadoor", sum := "921cbf849de8cb41ed8c59360b2fb9105b5c5b15b1200ba3df30c2a6d5cd1088", checked := Tryd.checked }
namespace Rows
def none {H : Type} : Left H := { results := [], args := [] }

/- WHAT THE LISTED PACKAGE-LEVEL VARIABLES READ AS WHEN THE CALL BEGINS. Each datum BY PROGRAM (the guide's laid-datum.mjs) off the statement by which the dump's own 'gosem.cut.vars' lays the variable. In a bare row this is a premise. The card (YtgdnagncjlajnaaDoorCards.lean) ties it to the program's text. -/
def laid_unicode_utf8_acceptRanges {H : Type} : DataW H := .agg [.agg [.lit (.int .u8 128), .lit (.int .u8 191)], .agg [.lit (.int .u8 160), .lit (.int .u8 191)], .agg [.lit (.int .u8 128), .lit (.int .u8 159)], .agg [.lit (.int .u8 144), .lit (.int .u8 191)], .agg [.lit (.int .u8 128), .lit (.int .u8 143)], .agg [.lit (.int .u8 0), .lit (.int .u8 0)], .agg [.lit (.int .u8 0), .lit (.int .u8 0)], .agg [.lit (.int .u8 0), .lit (.int .u8 0)], .agg [.lit (.int .u8 0), .lit (.int .u8 0)], .agg [.lit (.int .u8 0), .lit (.int .u8 0)], .agg [.lit (.int .u8 0), .lit (.int .u8 0)], .agg [.lit (.int .u8 0), .lit (.int .u8 0)], .agg [.lit (.int .u8 0), .lit (.int .u8 0)], .agg [.lit (.int .u8 0), .lit (.int .u8 0)], .agg [.lit (.int .u8 0), .lit (.int .u8 0)], .agg [.lit (.int .u8 0), .lit (.int .u8 0)]]
/-- One of Go's own tables, pinned by name: the form's constant. -/
def laid_unicode_utf8_first : DataW Unit := Go.Pinned.utf8First

/-- 'eponymlaw18.MatchMeans': WHATEVER THE INPUT: true; the input reads as it did. -/
def matchMeansSpec : ChangeSpec := { name := "matchMeans", fn := fun _ => fun
  | [d1, d2] => { results := [.lit (.bool true)], args := [d1, d2] }
  | _ => none }
def matchMeansRow : OpenClaim := { program := "ytgdnagncjlajnaadoor", sum := "921cbf849de8cb41ed8c59360b2fb9105b5c5b15b1200ba3df30c2a6d5cd1088", func := "eponym/eponymlaw18.MatchMeans", spec := "matchMeans", inPlace := ["internal/bytealg.CountString", "internal/bytealg.IndexByteString", "internal/bytealg.IndexString"], named := ["unicode/utf8.first", "unicode/utf8.acceptRanges", "internal/bytealg.MaxLen"], apart := false, laid := [("unicode/utf8.acceptRanges", laid_unicode_utf8_acceptRanges), ("unicode/utf8.first", laid_unicode_utf8_first)] }
def MatchMeansSaid : Prop := matchMeansRow.holds Tryd.pinned (OpenSpec.ofChange matchMeansSpec)

/-- ITS FALSE NEIGHBOUR: 'it returns false'. Refute it at one input. -/
def matchMeansWrong : ChangeSpec := { name := "matchMeans", fn := fun _ => fun
  | [d1, d2] => { results := [.lit (.bool false)], args := [d1, d2] }
  | _ => none }
def MatchMeansWrongFalsely : Prop := matchMeansRow.holds Tryd.pinned (OpenSpec.ofChange matchMeansWrong)

/-- 'eponymlaw18.MatchGlobs': WHATEVER THE INPUT: true; the input reads as it did. -/
def matchGlobsSpec : ChangeSpec := { name := "matchGlobs", fn := fun _ => fun
  | [d1, d2] => { results := [.lit (.bool true)], args := [d1, d2] }
  | _ => none }
def matchGlobsRow : OpenClaim := { program := "ytgdnagncjlajnaadoor", sum := "921cbf849de8cb41ed8c59360b2fb9105b5c5b15b1200ba3df30c2a6d5cd1088", func := "eponym/eponymlaw18.MatchGlobs", spec := "matchGlobs", inPlace := ["internal/bytealg.CountString", "internal/bytealg.IndexByteString", "internal/bytealg.IndexString"], named := ["unicode/utf8.first", "unicode/utf8.acceptRanges", "internal/bytealg.MaxLen"], apart := false, laid := [("unicode/utf8.acceptRanges", laid_unicode_utf8_acceptRanges), ("unicode/utf8.first", laid_unicode_utf8_first)] }
def MatchGlobsSaid : Prop := matchGlobsRow.holds Tryd.pinned (OpenSpec.ofChange matchGlobsSpec)

/-- ITS FALSE NEIGHBOUR: 'it returns false'. Refute it at one input. -/
def matchGlobsWrong : ChangeSpec := { name := "matchGlobs", fn := fun _ => fun
  | [d1, d2] => { results := [.lit (.bool false)], args := [d1, d2] }
  | _ => none }
def MatchGlobsWrongFalsely : Prop := matchGlobsRow.holds Tryd.pinned (OpenSpec.ofChange matchGlobsWrong)

/-- 'eponymlaw18.MatchCloses': WHATEVER THE INPUT: true; the input reads as it did. -/
def matchClosesSpec : ChangeSpec := { name := "matchCloses", fn := fun _ => fun
  | [d1, d2, d3] => { results := [.lit (.bool true)], args := [d1, d2, d3] }
  | _ => none }
def matchClosesRow : OpenClaim := { program := "ytgdnagncjlajnaadoor", sum := "921cbf849de8cb41ed8c59360b2fb9105b5c5b15b1200ba3df30c2a6d5cd1088", func := "eponym/eponymlaw18.MatchCloses", spec := "matchCloses", inPlace := ["internal/bytealg.CountString", "internal/bytealg.IndexByteString", "internal/bytealg.IndexString"], named := ["unicode/utf8.first", "unicode/utf8.acceptRanges", "internal/bytealg.MaxLen"], apart := false, laid := [("unicode/utf8.acceptRanges", laid_unicode_utf8_acceptRanges), ("unicode/utf8.first", laid_unicode_utf8_first)] }
def MatchClosesSaid : Prop := matchClosesRow.holds Tryd.pinned (OpenSpec.ofChange matchClosesSpec)

/-- ITS FALSE NEIGHBOUR: 'it returns false'. Refute it at one input. -/
def matchClosesWrong : ChangeSpec := { name := "matchCloses", fn := fun _ => fun
  | [d1, d2, d3] => { results := [.lit (.bool false)], args := [d1, d2, d3] }
  | _ => none }
def MatchClosesWrongFalsely : Prop := matchClosesRow.holds Tryd.pinned (OpenSpec.ofChange matchClosesWrong)

/- THE SECOND FORM. 'bulk': how many values and letters a reading holds, each counted each time it is reached (what is shared counts as often as it is met; a slice's spare places count too). A statement '..UptoSaid' is the law's where the arguments, and the package variables that the reading takes, are together of bulk at most 1048576: NARROWER than '..Said'. Prove '..Said' where nothing that the law and all that it calls make is longer than what came in: it says more and counts as full. Else prove '..UptoSaid'. A law counts once. -/
mutual
def uptoBulk {H : Type} : DataW H → Nat
  | .lit (.string bytes) => bytes.length + 1
  | .lit _ => 1
  | .nil => 1
  | .ptr d => uptoBulk d + 1
  | .slice elems spare => uptoBulkAll elems + uptoBulkAll spare + 1
  | .agg parts => uptoBulkAll parts + 1
  | .iface _ d => uptoBulk d + 1
  | .map entries => uptoBulkEntries entries + 1
  | .held _ => 1
def uptoBulkAll {H : Type} : List (DataW H) → Nat
  | [] => 0
  | d :: r => uptoBulk d + uptoBulkAll r
def uptoBulkEntries {H : Type} : List (Lit × DataW H) → Nat
  | [] => 0
  | x :: r => uptoBulkEntry x + uptoBulkEntries r
def uptoBulkEntry {H : Type} : Lit × DataW H → Nat
  | (.string bytes, d) => bytes.length + uptoBulk d + 1
  | (_, d) => uptoBulk d + 1
 end
def uptoSmall : (H : Type) → List (DataW H) → Bool := fun _ ds => decide (uptoBulkAll ds ≤ 1048576)
def OpenSpec.upto (s : _root_.Go.ChangeSpec) : _root_.Go.OpenSpec := { _root_.Go.OpenSpec.ofChange s with cond := some uptoSmall }

/-- 'eponymlaw18.MatchMeans', WHERE WHAT IT READS IS OF BULK AT MOST 1048576: true; the input reads as it did. -/
def matchMeansUptoRow : OpenClaim := { program := "ytgdnagncjlajnaadoor", sum := "921cbf849de8cb41ed8c59360b2fb9105b5c5b15b1200ba3df30c2a6d5cd1088", func := "eponym/eponymlaw18.MatchMeans", spec := "matchMeans", inPlace := ["internal/bytealg.CountString", "internal/bytealg.IndexByteString", "internal/bytealg.IndexString"], named := ["unicode/utf8.first", "unicode/utf8.acceptRanges", "internal/bytealg.MaxLen"], apart := false, laid := [("unicode/utf8.acceptRanges", laid_unicode_utf8_acceptRanges), ("unicode/utf8.first", laid_unicode_utf8_first)], narrowed := true }
def MatchMeansUptoSaid : Prop := matchMeansUptoRow.holds Tryd.pinned (OpenSpec.upto matchMeansSpec)

/-- 'eponymlaw18.MatchGlobs', WHERE WHAT IT READS IS OF BULK AT MOST 1048576: true; the input reads as it did. -/
def matchGlobsUptoRow : OpenClaim := { program := "ytgdnagncjlajnaadoor", sum := "921cbf849de8cb41ed8c59360b2fb9105b5c5b15b1200ba3df30c2a6d5cd1088", func := "eponym/eponymlaw18.MatchGlobs", spec := "matchGlobs", inPlace := ["internal/bytealg.CountString", "internal/bytealg.IndexByteString", "internal/bytealg.IndexString"], named := ["unicode/utf8.first", "unicode/utf8.acceptRanges", "internal/bytealg.MaxLen"], apart := false, laid := [("unicode/utf8.acceptRanges", laid_unicode_utf8_acceptRanges), ("unicode/utf8.first", laid_unicode_utf8_first)], narrowed := true }
def MatchGlobsUptoSaid : Prop := matchGlobsUptoRow.holds Tryd.pinned (OpenSpec.upto matchGlobsSpec)

/-- 'eponymlaw18.MatchCloses', WHERE WHAT IT READS IS OF BULK AT MOST 1048576: true; the input reads as it did. -/
def matchClosesUptoRow : OpenClaim := { program := "ytgdnagncjlajnaadoor", sum := "921cbf849de8cb41ed8c59360b2fb9105b5c5b15b1200ba3df30c2a6d5cd1088", func := "eponym/eponymlaw18.MatchCloses", spec := "matchCloses", inPlace := ["internal/bytealg.CountString", "internal/bytealg.IndexByteString", "internal/bytealg.IndexString"], named := ["unicode/utf8.first", "unicode/utf8.acceptRanges", "internal/bytealg.MaxLen"], apart := false, laid := [("unicode/utf8.acceptRanges", laid_unicode_utf8_acceptRanges), ("unicode/utf8.first", laid_unicode_utf8_first)], narrowed := true }
def MatchClosesUptoSaid : Prop := matchClosesUptoRow.holds Tryd.pinned (OpenSpec.upto matchClosesSpec)

end Rows
end Go.Proofs.YtgdnagncjlajnaaDoor
