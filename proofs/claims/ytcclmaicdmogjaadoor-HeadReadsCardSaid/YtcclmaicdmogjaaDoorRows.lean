/-
  NARROWER THAN 'FOR EVERY INPUT', by the rows' own cells (each row's printed sentence says how): HeadMaxps: laid · HeadElse: laid · HeadReads: laid · HeadBack: laid · FontBack: laid · FontAgain: laid · FontKinds: laid · FontSyncs: laid · FontPass: laid.
  DERIVED. THE GIVEN ROWS OF THIS SEAT. 9 by the template 'for every input the law returns true; each argument reads behind the call as it read before'; 0 by the template 'total and deterministic' (their statements: YtcclmaicdmogjaaDoorTotals.lean).
  GIVEN WITH THE SEED: the statements are not yours to turn. If you find one false, say at which input.
  Laid BY PROGRAM, IN A SANDBOX (cutbox-rows.mjs): the forced cells as the released guide's own fill.sh prints them over the translation 7ddb545a60dc1b25… (all of the seat's roots in one cut). By AI agents, Wed Nov 11 2026. No macro, syntax, notation, axiom, sorry.
-/
import Derived.Test.YtcclmaicdmogjaaDoorChecked
import GoSem.Claim
import GoSem.ClaimJoined
import GoSem.ClaimMapViews
import Derived.JoinedTies
import Derived.KernelRfl
namespace Go.Proofs.YtcclmaicdmogjaaDoor
/- THE CELL 'sum', in the pinned program and in every row, IS THE sha256 OF THE DUMP (.gsa) THAT YtcclmaicdmogjaaDoorProg.lean LOADS. Nothing in Lean hashes anything: it is a label: what it is worth is what the hold of that sum in a sandbox is worth. -/
noncomputable def Tryd.pinned : Pinned := { name := "ytcclmaicdmogjaadoor", sum := "7ddb545a60dc1b25d99277a8cae4ee1d23ab268d14bdf8362dcd41bed4879ac6", checked := Tryd.checked }
namespace Rows
def none {H : Type} : Left H := { results := [], args := [] }

/- WHAT THE LISTED PACKAGE-LEVEL VARIABLES READ AS WHEN THE CALL BEGINS. Each datum BY PROGRAM (the guide's laid-datum.mjs) off the statement by which the dump's own 'gosem.cut.vars' lays the variable. In a bare row this is a premise. The card (YtcclmaicdmogjaaDoorCards.lean) ties it to the program's text. -/
def laid_calamus_head_places {H : Type} : DataW H := .agg [.lit (.int .i64 4), .lit (.int .i64 6), .lit (.int .i64 8), .lit (.int .i64 10), .lit (.int .i64 12), .lit (.int .i64 28), .lit (.int .i64 30)]

/-- 'calamuslaw05.HeadMaxps': WHATEVER THE INPUT: true; the input reads as it did. -/
def headMaxpsSpec : ChangeSpec := { name := "headMaxps", fn := fun _ => fun
  | [d1, d2, d3] => { results := [.lit (.bool true)], args := [d1, d2, d3] }
  | _ => none }
def headMaxpsRow : OpenClaim := { program := "ytcclmaicdmogjaadoor", sum := "7ddb545a60dc1b25d99277a8cae4ee1d23ab268d14bdf8362dcd41bed4879ac6", func := "calamus/calamuslaw05.HeadMaxps", spec := "headMaxps", named := ["calamus/head.places"], apart := false, laid := [("calamus/head.places", laid_calamus_head_places)] }
def HeadMaxpsSaid : Prop := headMaxpsRow.holds Tryd.pinned (OpenSpec.ofChange headMaxpsSpec)

/-- ITS FALSE NEIGHBOUR: 'it returns false'. Refute it at one input. -/
def headMaxpsWrong : ChangeSpec := { name := "headMaxps", fn := fun _ => fun
  | [d1, d2, d3] => { results := [.lit (.bool false)], args := [d1, d2, d3] }
  | _ => none }
def HeadMaxpsWrongFalsely : Prop := headMaxpsRow.holds Tryd.pinned (OpenSpec.ofChange headMaxpsWrong)

/-- 'calamuslaw05.HeadElse': WHATEVER THE INPUT: true; the input reads as it did. -/
def headElseSpec : ChangeSpec := { name := "headElse", fn := fun _ => fun
  | [d1, d2, d3] => { results := [.lit (.bool true)], args := [d1, d2, d3] }
  | _ => none }
def headElseRow : OpenClaim := { program := "ytcclmaicdmogjaadoor", sum := "7ddb545a60dc1b25d99277a8cae4ee1d23ab268d14bdf8362dcd41bed4879ac6", func := "calamus/calamuslaw05.HeadElse", spec := "headElse", named := ["calamus/head.places"], apart := false, laid := [("calamus/head.places", laid_calamus_head_places)] }
def HeadElseSaid : Prop := headElseRow.holds Tryd.pinned (OpenSpec.ofChange headElseSpec)

/-- ITS FALSE NEIGHBOUR: 'it returns false'. Refute it at one input. -/
def headElseWrong : ChangeSpec := { name := "headElse", fn := fun _ => fun
  | [d1, d2, d3] => { results := [.lit (.bool false)], args := [d1, d2, d3] }
  | _ => none }
def HeadElseWrongFalsely : Prop := headElseRow.holds Tryd.pinned (OpenSpec.ofChange headElseWrong)

/-- 'calamuslaw05.HeadReads': WHATEVER THE INPUT: true; the input reads as it did. -/
def headReadsSpec : ChangeSpec := { name := "headReads", fn := fun _ => fun
  | [d] => { results := [.lit (.bool true)], args := [d] }
  | _ => none }
def headReadsRow : OpenClaim := { program := "ytcclmaicdmogjaadoor", sum := "7ddb545a60dc1b25d99277a8cae4ee1d23ab268d14bdf8362dcd41bed4879ac6", func := "calamus/calamuslaw05.HeadReads", spec := "headReads", named := ["calamus/head.places"], apart := false, laid := [("calamus/head.places", laid_calamus_head_places)] }
def HeadReadsSaid : Prop := headReadsRow.holds Tryd.pinned (OpenSpec.ofChange headReadsSpec)

/-- ITS FALSE NEIGHBOUR: 'it returns false'. Refute it at one input. -/
def headReadsWrong : ChangeSpec := { name := "headReads", fn := fun _ => fun
  | [d] => { results := [.lit (.bool false)], args := [d] }
  | _ => none }
def HeadReadsWrongFalsely : Prop := headReadsRow.holds Tryd.pinned (OpenSpec.ofChange headReadsWrong)

/-- 'calamuslaw05.HeadBack': WHATEVER THE INPUT: true; the input reads as it did. -/
def headBackSpec : ChangeSpec := { name := "headBack", fn := fun _ => fun
  | [d1, d2, d3] => { results := [.lit (.bool true)], args := [d1, d2, d3] }
  | _ => none }
def headBackRow : OpenClaim := { program := "ytcclmaicdmogjaadoor", sum := "7ddb545a60dc1b25d99277a8cae4ee1d23ab268d14bdf8362dcd41bed4879ac6", func := "calamus/calamuslaw05.HeadBack", spec := "headBack", named := ["calamus/head.places"], apart := false, laid := [("calamus/head.places", laid_calamus_head_places)] }
def HeadBackSaid : Prop := headBackRow.holds Tryd.pinned (OpenSpec.ofChange headBackSpec)

/-- ITS FALSE NEIGHBOUR: 'it returns false'. Refute it at one input. -/
def headBackWrong : ChangeSpec := { name := "headBack", fn := fun _ => fun
  | [d1, d2, d3] => { results := [.lit (.bool false)], args := [d1, d2, d3] }
  | _ => none }
def HeadBackWrongFalsely : Prop := headBackRow.holds Tryd.pinned (OpenSpec.ofChange headBackWrong)

/-- 'calamuslaw09.FontBack': WHATEVER THE INPUT: true; the input reads as it did. -/
def fontBackSpec : ChangeSpec := { name := "fontBack", fn := fun _ => fun
  | [d] => { results := [.lit (.bool true)], args := [d] }
  | _ => none }
def fontBackRow : OpenClaim := { program := "ytcclmaicdmogjaadoor", sum := "7ddb545a60dc1b25d99277a8cae4ee1d23ab268d14bdf8362dcd41bed4879ac6", func := "calamus/calamuslaw09.FontBack", spec := "fontBack", inPlace := ["slices.overlaps[calamus/api.Table]"], unfollowed := true, recurses := true, named := ["calamus/head.places"], apart := false, laid := [("calamus/head.places", laid_calamus_head_places)] }
def FontBackSaid : Prop := fontBackRow.holds Tryd.pinned (OpenSpec.ofChange fontBackSpec)

/-- ITS FALSE NEIGHBOUR: 'it returns false'. Refute it at one input. -/
def fontBackWrong : ChangeSpec := { name := "fontBack", fn := fun _ => fun
  | [d] => { results := [.lit (.bool false)], args := [d] }
  | _ => none }
def FontBackWrongFalsely : Prop := fontBackRow.holds Tryd.pinned (OpenSpec.ofChange fontBackWrong)

/-- 'calamuslaw09.FontAgain': WHATEVER THE INPUT: true; the input reads as it did. -/
def fontAgainSpec : ChangeSpec := { name := "fontAgain", fn := fun _ => fun
  | [d] => { results := [.lit (.bool true)], args := [d] }
  | _ => none }
def fontAgainRow : OpenClaim := { program := "ytcclmaicdmogjaadoor", sum := "7ddb545a60dc1b25d99277a8cae4ee1d23ab268d14bdf8362dcd41bed4879ac6", func := "calamus/calamuslaw09.FontAgain", spec := "fontAgain", inPlace := ["slices.overlaps[calamus/api.Table]"], unfollowed := true, recurses := true, named := ["calamus/head.places"], apart := false, laid := [("calamus/head.places", laid_calamus_head_places)] }
def FontAgainSaid : Prop := fontAgainRow.holds Tryd.pinned (OpenSpec.ofChange fontAgainSpec)

/-- ITS FALSE NEIGHBOUR: 'it returns false'. Refute it at one input. -/
def fontAgainWrong : ChangeSpec := { name := "fontAgain", fn := fun _ => fun
  | [d] => { results := [.lit (.bool false)], args := [d] }
  | _ => none }
def FontAgainWrongFalsely : Prop := fontAgainRow.holds Tryd.pinned (OpenSpec.ofChange fontAgainWrong)

/-- 'calamuslaw09.FontKinds': WHATEVER THE INPUT: true; the input reads as it did. -/
def fontKindsSpec : ChangeSpec := { name := "fontKinds", fn := fun _ => fun
  | [d] => { results := [.lit (.bool true)], args := [d] }
  | _ => none }
def fontKindsRow : OpenClaim := { program := "ytcclmaicdmogjaadoor", sum := "7ddb545a60dc1b25d99277a8cae4ee1d23ab268d14bdf8362dcd41bed4879ac6", func := "calamus/calamuslaw09.FontKinds", spec := "fontKinds", inPlace := ["slices.overlaps[calamus/api.Table]"], unfollowed := true, recurses := true, named := ["calamus/head.places"], apart := false, laid := [("calamus/head.places", laid_calamus_head_places)] }
def FontKindsSaid : Prop := fontKindsRow.holds Tryd.pinned (OpenSpec.ofChange fontKindsSpec)

/-- ITS FALSE NEIGHBOUR: 'it returns false'. Refute it at one input. -/
def fontKindsWrong : ChangeSpec := { name := "fontKinds", fn := fun _ => fun
  | [d] => { results := [.lit (.bool false)], args := [d] }
  | _ => none }
def FontKindsWrongFalsely : Prop := fontKindsRow.holds Tryd.pinned (OpenSpec.ofChange fontKindsWrong)

/-- 'calamuslaw09.FontSyncs': WHATEVER THE INPUT: true; the input reads as it did. -/
def fontSyncsSpec : ChangeSpec := { name := "fontSyncs", fn := fun _ => fun
  | [d] => { results := [.lit (.bool true)], args := [d] }
  | _ => none }
def fontSyncsRow : OpenClaim := { program := "ytcclmaicdmogjaadoor", sum := "7ddb545a60dc1b25d99277a8cae4ee1d23ab268d14bdf8362dcd41bed4879ac6", func := "calamus/calamuslaw09.FontSyncs", spec := "fontSyncs", inPlace := ["slices.overlaps[calamus/api.Table]"], unfollowed := true, recurses := true, named := ["calamus/head.places"], apart := false, laid := [("calamus/head.places", laid_calamus_head_places)] }
def FontSyncsSaid : Prop := fontSyncsRow.holds Tryd.pinned (OpenSpec.ofChange fontSyncsSpec)

/-- ITS FALSE NEIGHBOUR: 'it returns false'. Refute it at one input. -/
def fontSyncsWrong : ChangeSpec := { name := "fontSyncs", fn := fun _ => fun
  | [d] => { results := [.lit (.bool false)], args := [d] }
  | _ => none }
def FontSyncsWrongFalsely : Prop := fontSyncsRow.holds Tryd.pinned (OpenSpec.ofChange fontSyncsWrong)

/-- 'calamuslaw09.FontPass': WHATEVER THE INPUT: true; the input reads as it did. -/
def fontPassSpec : ChangeSpec := { name := "fontPass", fn := fun _ => fun
  | [d] => { results := [.lit (.bool true)], args := [d] }
  | _ => none }
def fontPassRow : OpenClaim := { program := "ytcclmaicdmogjaadoor", sum := "7ddb545a60dc1b25d99277a8cae4ee1d23ab268d14bdf8362dcd41bed4879ac6", func := "calamus/calamuslaw09.FontPass", spec := "fontPass", inPlace := ["slices.overlaps[calamus/api.Table]"], unfollowed := true, recurses := true, named := ["calamus/head.places"], apart := false, laid := [("calamus/head.places", laid_calamus_head_places)] }
def FontPassSaid : Prop := fontPassRow.holds Tryd.pinned (OpenSpec.ofChange fontPassSpec)

/-- ITS FALSE NEIGHBOUR: 'it returns false'. Refute it at one input. -/
def fontPassWrong : ChangeSpec := { name := "fontPass", fn := fun _ => fun
  | [d] => { results := [.lit (.bool false)], args := [d] }
  | _ => none }
def FontPassWrongFalsely : Prop := fontPassRow.holds Tryd.pinned (OpenSpec.ofChange fontPassWrong)

/- THE SECOND FORM. 'bulk': how many values and letters a reading holds, each counted each time it is reached (what is shared counts as often as it is met; a slice's spare places count too). A statement '..UptoSaid' is the law's where the arguments, and the package variables that the reading takes, are together of bulk at most 1048576: NARROWER than '..Said'. Prove '..Said' where nothing that the law and all that it calls make is longer than what came in: it says more and counts as full. Else prove '..UptoSaid'. A law counts once. -/
mutual
def uptoBulk {H : Type} : DataW H → Nat
  | .lit (.string bytes) => bytes.length + 1
  | .lit _ => 1
  | .nil => 1
  | .ptr d => uptoBulk d + 1
  | .slice elems spare => uptoBulkAll elems + uptoBulkAll spare + 1
  | .agg parts => uptoBulkAll parts + 1
  | .iface _ d => uptoBulk d + 1
  | .map entries => uptoBulkEntries entries + 1
  | .held _ => 1
def uptoBulkAll {H : Type} : List (DataW H) → Nat
  | [] => 0
  | d :: r => uptoBulk d + uptoBulkAll r
def uptoBulkEntries {H : Type} : List (Lit × DataW H) → Nat
  | [] => 0
  | x :: r => uptoBulkEntry x + uptoBulkEntries r
def uptoBulkEntry {H : Type} : Lit × DataW H → Nat
  | (.string bytes, d) => bytes.length + uptoBulk d + 1
  | (_, d) => uptoBulk d + 1
 end
def uptoSmall : (H : Type) → List (DataW H) → Bool := fun _ ds => decide (uptoBulkAll ds ≤ 1048576)
def OpenSpec.upto (s : _root_.Go.ChangeSpec) : _root_.Go.OpenSpec := { _root_.Go.OpenSpec.ofChange s with cond := some uptoSmall }

/-- 'calamuslaw05.HeadMaxps', WHERE WHAT IT READS IS OF BULK AT MOST 1048576: true; the input reads as it did. -/
def headMaxpsUptoRow : OpenClaim := { program := "ytcclmaicdmogjaadoor", sum := "7ddb545a60dc1b25d99277a8cae4ee1d23ab268d14bdf8362dcd41bed4879ac6", func := "calamus/calamuslaw05.HeadMaxps", spec := "headMaxps", named := ["calamus/head.places"], apart := false, laid := [("calamus/head.places", laid_calamus_head_places)], narrowed := true }
def HeadMaxpsUptoSaid : Prop := headMaxpsUptoRow.holds Tryd.pinned (OpenSpec.upto headMaxpsSpec)

/-- 'calamuslaw05.HeadElse', WHERE WHAT IT READS IS OF BULK AT MOST 1048576: true; the input reads as it did. -/
def headElseUptoRow : OpenClaim := { program := "ytcclmaicdmogjaadoor", sum := "7ddb545a60dc1b25d99277a8cae4ee1d23ab268d14bdf8362dcd41bed4879ac6", func := "calamus/calamuslaw05.HeadElse", spec := "headElse", named := ["calamus/head.places"], apart := false, laid := [("calamus/head.places", laid_calamus_head_places)], narrowed := true }
def HeadElseUptoSaid : Prop := headElseUptoRow.holds Tryd.pinned (OpenSpec.upto headElseSpec)

/-- 'calamuslaw05.HeadReads', WHERE WHAT IT READS IS OF BULK AT MOST 1048576: true; the input reads as it did. -/
def headReadsUptoRow : OpenClaim := { program := "ytcclmaicdmogjaadoor", sum := "7ddb545a60dc1b25d99277a8cae4ee1d23ab268d14bdf8362dcd41bed4879ac6", func := "calamus/calamuslaw05.HeadReads", spec := "headReads", named := ["calamus/head.places"], apart := false, laid := [("calamus/head.places", laid_calamus_head_places)], narrowed := true }
def HeadReadsUptoSaid : Prop := headReadsUptoRow.holds Tryd.pinned (OpenSpec.upto headReadsSpec)

/-- 'calamuslaw05.HeadBack', WHERE WHAT IT READS IS OF BULK AT MOST 1048576: true; the input reads as it did. -/
def headBackUptoRow : OpenClaim := { program := "ytcclmaicdmogjaadoor", sum := "7ddb545a60dc1b25d99277a8cae4ee1d23ab268d14bdf8362dcd41bed4879ac6", func := "calamus/calamuslaw05.HeadBack", spec := "headBack", named := ["calamus/head.places"], apart := false, laid := [("calamus/head.places", laid_calamus_head_places)], narrowed := true }
def HeadBackUptoSaid : Prop := headBackUptoRow.holds Tryd.pinned (OpenSpec.upto headBackSpec)

/-- 'calamuslaw09.FontBack', WHERE WHAT IT READS IS OF BULK AT MOST 1048576: true; the input reads as it did. -/
def fontBackUptoRow : OpenClaim := { program := "ytcclmaicdmogjaadoor", sum := "7ddb545a60dc1b25d99277a8cae4ee1d23ab268d14bdf8362dcd41bed4879ac6", func := "calamus/calamuslaw09.FontBack", spec := "fontBack", inPlace := ["slices.overlaps[calamus/api.Table]"], unfollowed := true, recurses := true, named := ["calamus/head.places"], apart := false, laid := [("calamus/head.places", laid_calamus_head_places)], narrowed := true }
def FontBackUptoSaid : Prop := fontBackUptoRow.holds Tryd.pinned (OpenSpec.upto fontBackSpec)

/-- 'calamuslaw09.FontAgain', WHERE WHAT IT READS IS OF BULK AT MOST 1048576: true; the input reads as it did. -/
def fontAgainUptoRow : OpenClaim := { program := "ytcclmaicdmogjaadoor", sum := "7ddb545a60dc1b25d99277a8cae4ee1d23ab268d14bdf8362dcd41bed4879ac6", func := "calamus/calamuslaw09.FontAgain", spec := "fontAgain", inPlace := ["slices.overlaps[calamus/api.Table]"], unfollowed := true, recurses := true, named := ["calamus/head.places"], apart := false, laid := [("calamus/head.places", laid_calamus_head_places)], narrowed := true }
def FontAgainUptoSaid : Prop := fontAgainUptoRow.holds Tryd.pinned (OpenSpec.upto fontAgainSpec)

/-- 'calamuslaw09.FontKinds', WHERE WHAT IT READS IS OF BULK AT MOST 1048576: true; the input reads as it did. -/
def fontKindsUptoRow : OpenClaim := { program := "ytcclmaicdmogjaadoor", sum := "7ddb545a60dc1b25d99277a8cae4ee1d23ab268d14bdf8362dcd41bed4879ac6", func := "calamus/calamuslaw09.FontKinds", spec := "fontKinds", inPlace := ["slices.overlaps[calamus/api.Table]"], unfollowed := true, recurses := true, named := ["calamus/head.places"], apart := false, laid := [("calamus/head.places", laid_calamus_head_places)], narrowed := true }
def FontKindsUptoSaid : Prop := fontKindsUptoRow.holds Tryd.pinned (OpenSpec.upto fontKindsSpec)

/-- 'calamuslaw09.FontSyncs', WHERE WHAT IT READS IS OF BULK AT MOST 1048576: true; the input reads as it did. -/
def fontSyncsUptoRow : OpenClaim := { program := "ytcclmaicdmogjaadoor", sum := "7ddb545a60dc1b25d99277a8cae4ee1d23ab268d14bdf8362dcd41bed4879ac6", func := "calamus/calamuslaw09.FontSyncs", spec := "fontSyncs", inPlace := ["slices.overlaps[calamus/api.Table]"], unfollowed := true, recurses := true, named := ["calamus/head.places"], apart := false, laid := [("calamus/head.places", laid_calamus_head_places)], narrowed := true }
def FontSyncsUptoSaid : Prop := fontSyncsUptoRow.holds Tryd.pinned (OpenSpec.upto fontSyncsSpec)

/-- 'calamuslaw09.FontPass', WHERE WHAT IT READS IS OF BULK AT MOST 1048576: true; the input reads as it did. -/
def fontPassUptoRow : OpenClaim := { program := "ytcclmaicdmogjaadoor", sum := "7ddb545a60dc1b25d99277a8cae4ee1d23ab268d14bdf8362dcd41bed4879ac6", func := "calamus/calamuslaw09.FontPass", spec := "fontPass", inPlace := ["slices.overlaps[calamus/api.Table]"], unfollowed := true, recurses := true, named := ["calamus/head.places"], apart := false, laid := [("calamus/head.places", laid_calamus_head_places)], narrowed := true }
def FontPassUptoSaid : Prop := fontPassUptoRow.holds Tryd.pinned (OpenSpec.upto fontPassSpec)

end Rows
end Go.Proofs.YtcclmaicdmogjaaDoor
