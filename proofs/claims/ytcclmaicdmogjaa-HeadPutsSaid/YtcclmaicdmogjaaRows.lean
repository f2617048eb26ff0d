/-
  No cell of these rows narrows 'for every input' (looked for: loops, veiled, ifaces, maps, wideKeys, modest, calm, conditions, laid).
  DERIVED. THE GIVEN ROWS OF THIS SEAT. 22 by the template 'for every input the law returns true; each argument reads behind the call as it read before'; 0 by the template 'total and deterministic' (their statements: YtcclmaicdmogjaaTotals.lean).
  GIVEN WITH THE SEED: the statements are not yours to turn. If you find one false, say at which input.
  Laid BY PROGRAM, IN A SANDBOX (cutbox-rows.mjs): the forced cells as the released guide's own fill.sh prints them over the translation 06e3d4ac44df8324… (all of the seat's roots in one cut). By AI agents, Wed Nov 11 2026. No macro, syntax, notation, axiom, sorry.
-/
import Derived.Test.YtcclmaicdmogjaaChecked
import GoSem.Claim
import GoSem.ClaimJoined
import GoSem.ClaimMapViews
import Derived.JoinedTies
import Derived.KernelRfl
namespace Go.Proofs.Ytcclmaicdmogjaa
/- THE CELL 'sum', in the pinned program and in every row, IS THE sha256 OF THE DUMP (.gsa) THAT YtcclmaicdmogjaaProg.lean LOADS. Nothing in Lean hashes anything: it is a label: what it is worth is what the hold of that sum in a sandbox is worth. -/
noncomputable def Try.pinned : Pinned := { name := "ytcclmaicdmogjaa", sum := "06e3d4ac44df8324cf809124ef2094c325f61b561b1bcd1582027442ee486999", checked := Try.checked }
namespace Rows
def none {H : Type} : Left H := { results := [], args := [] }

/-- 'calamuslaw03.TabsumIs': WHATEVER THE INPUT: true; the input reads as it did. -/
def tabsumIsSpec : ChangeSpec := { name := "tabsumIs", fn := fun _ => fun
  | [d1, d2] => { results := [.lit (.bool true)], args := [d1, d2] }
  | _ => none }
def tabsumIsRow : OpenClaim := { program := "ytcclmaicdmogjaa", sum := "06e3d4ac44df8324cf809124ef2094c325f61b561b1bcd1582027442ee486999", func := "calamus/calamuslaw03.TabsumIs", spec := "tabsumIs", apart := false }
def TabsumIsSaid : Prop := tabsumIsRow.holds Try.pinned (OpenSpec.ofChange tabsumIsSpec)

/-- ITS FALSE NEIGHBOUR: 'it returns false'. Refute it at one input. -/
def tabsumIsWrong : ChangeSpec := { name := "tabsumIs", fn := fun _ => fun
  | [d1, d2] => { results := [.lit (.bool false)], args := [d1, d2] }
  | _ => none }
def TabsumIsWrongFalsely : Prop := tabsumIsRow.holds Try.pinned (OpenSpec.ofChange tabsumIsWrong)

/-- 'calamuslaw03.TabsumPieces': WHATEVER THE INPUT: true; the input reads as it did. -/
def tabsumPiecesSpec : ChangeSpec := { name := "tabsumPieces", fn := fun _ => fun
  | [d1, d2] => { results := [.lit (.bool true)], args := [d1, d2] }
  | _ => none }
def tabsumPiecesRow : OpenClaim := { program := "ytcclmaicdmogjaa", sum := "06e3d4ac44df8324cf809124ef2094c325f61b561b1bcd1582027442ee486999", func := "calamus/calamuslaw03.TabsumPieces", spec := "tabsumPieces", apart := false }
def TabsumPiecesSaid : Prop := tabsumPiecesRow.holds Try.pinned (OpenSpec.ofChange tabsumPiecesSpec)

/-- ITS FALSE NEIGHBOUR: 'it returns false'. Refute it at one input. -/
def tabsumPiecesWrong : ChangeSpec := { name := "tabsumPieces", fn := fun _ => fun
  | [d1, d2] => { results := [.lit (.bool false)], args := [d1, d2] }
  | _ => none }
def TabsumPiecesWrongFalsely : Prop := tabsumPiecesRow.holds Try.pinned (OpenSpec.ofChange tabsumPiecesWrong)

/-- 'calamuslaw03.TabsumPads': WHATEVER THE INPUT: true; the input reads as it did. -/
def tabsumPadsSpec : ChangeSpec := { name := "tabsumPads", fn := fun _ => fun
  | [d1, d2] => { results := [.lit (.bool true)], args := [d1, d2] }
  | _ => none }
def tabsumPadsRow : OpenClaim := { program := "ytcclmaicdmogjaa", sum := "06e3d4ac44df8324cf809124ef2094c325f61b561b1bcd1582027442ee486999", func := "calamus/calamuslaw03.TabsumPads", spec := "tabsumPads", apart := false }
def TabsumPadsSaid : Prop := tabsumPadsRow.holds Try.pinned (OpenSpec.ofChange tabsumPadsSpec)

/-- ITS FALSE NEIGHBOUR: 'it returns false'. Refute it at one input. -/
def tabsumPadsWrong : ChangeSpec := { name := "tabsumPads", fn := fun _ => fun
  | [d1, d2] => { results := [.lit (.bool false)], args := [d1, d2] }
  | _ => none }
def TabsumPadsWrongFalsely : Prop := tabsumPadsRow.holds Try.pinned (OpenSpec.ofChange tabsumPadsWrong)

/-- 'calamuslaw03.TabsumAdjusts': WHATEVER THE INPUT: true; the input reads as it did. -/
def tabsumAdjustsSpec : ChangeSpec := { name := "tabsumAdjusts", fn := fun _ => fun
  | [d1, d2] => { results := [.lit (.bool true)], args := [d1, d2] }
  | _ => none }
def tabsumAdjustsRow : OpenClaim := { program := "ytcclmaicdmogjaa", sum := "06e3d4ac44df8324cf809124ef2094c325f61b561b1bcd1582027442ee486999", func := "calamus/calamuslaw03.TabsumAdjusts", spec := "tabsumAdjusts", apart := false }
def TabsumAdjustsSaid : Prop := tabsumAdjustsRow.holds Try.pinned (OpenSpec.ofChange tabsumAdjustsSpec)

/-- ITS FALSE NEIGHBOUR: 'it returns false'. Refute it at one input. -/
def tabsumAdjustsWrong : ChangeSpec := { name := "tabsumAdjusts", fn := fun _ => fun
  | [d1, d2] => { results := [.lit (.bool false)], args := [d1, d2] }
  | _ => none }
def TabsumAdjustsWrongFalsely : Prop := tabsumAdjustsRow.holds Try.pinned (OpenSpec.ofChange tabsumAdjustsWrong)

/-- 'calamuslaw03.TabsumTurns': WHATEVER THE INPUT: true; the input reads as it did. -/
def tabsumTurnsSpec : ChangeSpec := { name := "tabsumTurns", fn := fun _ => fun
  | [d1, d2, d3] => { results := [.lit (.bool true)], args := [d1, d2, d3] }
  | _ => none }
def tabsumTurnsRow : OpenClaim := { program := "ytcclmaicdmogjaa", sum := "06e3d4ac44df8324cf809124ef2094c325f61b561b1bcd1582027442ee486999", func := "calamus/calamuslaw03.TabsumTurns", spec := "tabsumTurns", apart := false }
def TabsumTurnsSaid : Prop := tabsumTurnsRow.holds Try.pinned (OpenSpec.ofChange tabsumTurnsSpec)

/-- ITS FALSE NEIGHBOUR: 'it returns false'. Refute it at one input. -/
def tabsumTurnsWrong : ChangeSpec := { name := "tabsumTurns", fn := fun _ => fun
  | [d1, d2, d3] => { results := [.lit (.bool false)], args := [d1, d2, d3] }
  | _ => none }
def TabsumTurnsWrongFalsely : Prop := tabsumTurnsRow.holds Try.pinned (OpenSpec.ofChange tabsumTurnsWrong)

/-- 'calamuslaw02.BeReads': WHATEVER THE INPUT: true; the input reads as it did. -/
def beReadsSpec : ChangeSpec := { name := "beReads", fn := fun _ => fun
  | [d1, d2, d3] => { results := [.lit (.bool true)], args := [d1, d2, d3] }
  | _ => none }
def beReadsRow : OpenClaim := { program := "ytcclmaicdmogjaa", sum := "06e3d4ac44df8324cf809124ef2094c325f61b561b1bcd1582027442ee486999", func := "calamus/calamuslaw02.BeReads", spec := "beReads", apart := false }
def BeReadsSaid : Prop := beReadsRow.holds Try.pinned (OpenSpec.ofChange beReadsSpec)

/-- ITS FALSE NEIGHBOUR: 'it returns false'. Refute it at one input. -/
def beReadsWrong : ChangeSpec := { name := "beReads", fn := fun _ => fun
  | [d1, d2, d3] => { results := [.lit (.bool false)], args := [d1, d2, d3] }
  | _ => none }
def BeReadsWrongFalsely : Prop := beReadsRow.holds Try.pinned (OpenSpec.ofChange beReadsWrong)

/-- 'calamuslaw02.BePuts': WHATEVER THE INPUT: true; the input reads as it did. -/
def bePutsSpec : ChangeSpec := { name := "bePuts", fn := fun _ => fun
  | [d1, d2] => { results := [.lit (.bool true)], args := [d1, d2] }
  | _ => none }
def bePutsRow : OpenClaim := { program := "ytcclmaicdmogjaa", sum := "06e3d4ac44df8324cf809124ef2094c325f61b561b1bcd1582027442ee486999", func := "calamus/calamuslaw02.BePuts", spec := "bePuts", apart := false }
def BePutsSaid : Prop := bePutsRow.holds Try.pinned (OpenSpec.ofChange bePutsSpec)

/-- ITS FALSE NEIGHBOUR: 'it returns false'. Refute it at one input. -/
def bePutsWrong : ChangeSpec := { name := "bePuts", fn := fun _ => fun
  | [d1, d2] => { results := [.lit (.bool false)], args := [d1, d2] }
  | _ => none }
def BePutsWrongFalsely : Prop := bePutsRow.holds Try.pinned (OpenSpec.ofChange bePutsWrong)

/-- 'calamuslaw02.BeBack': WHATEVER THE INPUT: true; the input reads as it did. -/
def beBackSpec : ChangeSpec := { name := "beBack", fn := fun _ => fun
  | [d1, d2, d3] => { results := [.lit (.bool true)], args := [d1, d2, d3] }
  | _ => none }
def beBackRow : OpenClaim := { program := "ytcclmaicdmogjaa", sum := "06e3d4ac44df8324cf809124ef2094c325f61b561b1bcd1582027442ee486999", func := "calamus/calamuslaw02.BeBack", spec := "beBack", apart := false }
def BeBackSaid : Prop := beBackRow.holds Try.pinned (OpenSpec.ofChange beBackSpec)

/-- ITS FALSE NEIGHBOUR: 'it returns false'. Refute it at one input. -/
def beBackWrong : ChangeSpec := { name := "beBack", fn := fun _ => fun
  | [d1, d2, d3] => { results := [.lit (.bool false)], args := [d1, d2, d3] }
  | _ => none }
def BeBackWrongFalsely : Prop := beBackRow.holds Try.pinned (OpenSpec.ofChange beBackWrong)

/-- 'calamuslaw02.BeCuts': WHATEVER THE INPUT: true; the input reads as it did. -/
def beCutsSpec : ChangeSpec := { name := "beCuts", fn := fun _ => fun
  | [d1, d2, d3] => { results := [.lit (.bool true)], args := [d1, d2, d3] }
  | _ => none }
def beCutsRow : OpenClaim := { program := "ytcclmaicdmogjaa", sum := "06e3d4ac44df8324cf809124ef2094c325f61b561b1bcd1582027442ee486999", func := "calamus/calamuslaw02.BeCuts", spec := "beCuts", apart := false }
def BeCutsSaid : Prop := beCutsRow.holds Try.pinned (OpenSpec.ofChange beCutsSpec)

/-- ITS FALSE NEIGHBOUR: 'it returns false'. Refute it at one input. -/
def beCutsWrong : ChangeSpec := { name := "beCuts", fn := fun _ => fun
  | [d1, d2, d3] => { results := [.lit (.bool false)], args := [d1, d2, d3] }
  | _ => none }
def BeCutsWrongFalsely : Prop := beCutsRow.holds Try.pinned (OpenSpec.ofChange beCutsWrong)

/-- 'calamuslaw02.BeLaid': WHATEVER THE INPUT: true; the input reads as it did. -/
def beLaidSpec : ChangeSpec := { name := "beLaid", fn := fun _ => fun
  | [d1, d2, d3] => { results := [.lit (.bool true)], args := [d1, d2, d3] }
  | _ => none }
def beLaidRow : OpenClaim := { program := "ytcclmaicdmogjaa", sum := "06e3d4ac44df8324cf809124ef2094c325f61b561b1bcd1582027442ee486999", func := "calamus/calamuslaw02.BeLaid", spec := "beLaid", apart := false }
def BeLaidSaid : Prop := beLaidRow.holds Try.pinned (OpenSpec.ofChange beLaidSpec)

/-- ITS FALSE NEIGHBOUR: 'it returns false'. Refute it at one input. -/
def beLaidWrong : ChangeSpec := { name := "beLaid", fn := fun _ => fun
  | [d1, d2, d3] => { results := [.lit (.bool false)], args := [d1, d2, d3] }
  | _ => none }
def BeLaidWrongFalsely : Prop := beLaidRow.holds Try.pinned (OpenSpec.ofChange beLaidWrong)

/-- 'calamuslaw05.HeadPuts': WHATEVER THE INPUT: true; the input reads as it did. -/
def headPutsSpec : ChangeSpec := { name := "headPuts", fn := fun _ => fun
  | [d1, d2] => { results := [.lit (.bool true)], args := [d1, d2] }
  | _ => none }
def headPutsRow : OpenClaim := { program := "ytcclmaicdmogjaa", sum := "06e3d4ac44df8324cf809124ef2094c325f61b561b1bcd1582027442ee486999", func := "calamus/calamuslaw05.HeadPuts", spec := "headPuts", apart := false }
def HeadPutsSaid : Prop := headPutsRow.holds Try.pinned (OpenSpec.ofChange headPutsSpec)

/-- ITS FALSE NEIGHBOUR: 'it returns false'. Refute it at one input. -/
def headPutsWrong : ChangeSpec := { name := "headPuts", fn := fun _ => fun
  | [d1, d2] => { results := [.lit (.bool false)], args := [d1, d2] }
  | _ => none }
def HeadPutsWrongFalsely : Prop := headPutsRow.holds Try.pinned (OpenSpec.ofChange headPutsWrong)

/-- 'calamuslaw06.LocaReads': WHATEVER THE INPUT: true; the input reads as it did. -/
def locaReadsSpec : ChangeSpec := { name := "locaReads", fn := fun _ => fun
  | [d1, d2, d3] => { results := [.lit (.bool true)], args := [d1, d2, d3] }
  | _ => none }
def locaReadsRow : OpenClaim := { program := "ytcclmaicdmogjaa", sum := "06e3d4ac44df8324cf809124ef2094c325f61b561b1bcd1582027442ee486999", func := "calamus/calamuslaw06.LocaReads", spec := "locaReads", unfollowed := true, recurses := true, apart := false }
def LocaReadsSaid : Prop := locaReadsRow.holds Try.pinned (OpenSpec.ofChange locaReadsSpec)

/-- ITS FALSE NEIGHBOUR: 'it returns false'. Refute it at one input. -/
def locaReadsWrong : ChangeSpec := { name := "locaReads", fn := fun _ => fun
  | [d1, d2, d3] => { results := [.lit (.bool false)], args := [d1, d2, d3] }
  | _ => none }
def LocaReadsWrongFalsely : Prop := locaReadsRow.holds Try.pinned (OpenSpec.ofChange locaReadsWrong)

/-- 'calamuslaw06.LocaWrites': WHATEVER THE INPUT: true; the input reads as it did. -/
def locaWritesSpec : ChangeSpec := { name := "locaWrites", fn := fun _ => fun
  | [d1, d2] => { results := [.lit (.bool true)], args := [d1, d2] }
  | _ => none }
def locaWritesRow : OpenClaim := { program := "ytcclmaicdmogjaa", sum := "06e3d4ac44df8324cf809124ef2094c325f61b561b1bcd1582027442ee486999", func := "calamus/calamuslaw06.LocaWrites", spec := "locaWrites", unfollowed := true, recurses := true, apart := false }
def LocaWritesSaid : Prop := locaWritesRow.holds Try.pinned (OpenSpec.ofChange locaWritesSpec)

/-- ITS FALSE NEIGHBOUR: 'it returns false'. Refute it at one input. -/
def locaWritesWrong : ChangeSpec := { name := "locaWrites", fn := fun _ => fun
  | [d1, d2] => { results := [.lit (.bool false)], args := [d1, d2] }
  | _ => none }
def LocaWritesWrongFalsely : Prop := locaWritesRow.holds Try.pinned (OpenSpec.ofChange locaWritesWrong)

/-- 'calamuslaw06.LocaBack': WHATEVER THE INPUT: true; the input reads as it did. -/
def locaBackSpec : ChangeSpec := { name := "locaBack", fn := fun _ => fun
  | [d1, d2, d3] => { results := [.lit (.bool true)], args := [d1, d2, d3] }
  | _ => none }
def locaBackRow : OpenClaim := { program := "ytcclmaicdmogjaa", sum := "06e3d4ac44df8324cf809124ef2094c325f61b561b1bcd1582027442ee486999", func := "calamus/calamuslaw06.LocaBack", spec := "locaBack", unfollowed := true, recurses := true, apart := false }
def LocaBackSaid : Prop := locaBackRow.holds Try.pinned (OpenSpec.ofChange locaBackSpec)

/-- ITS FALSE NEIGHBOUR: 'it returns false'. Refute it at one input. -/
def locaBackWrong : ChangeSpec := { name := "locaBack", fn := fun _ => fun
  | [d1, d2, d3] => { results := [.lit (.bool false)], args := [d1, d2, d3] }
  | _ => none }
def LocaBackWrongFalsely : Prop := locaBackRow.holds Try.pinned (OpenSpec.ofChange locaBackWrong)

/-- 'calamuslaw06.LocaMetrics': WHATEVER THE INPUT: true; the input reads as it did. -/
def locaMetricsSpec : ChangeSpec := { name := "locaMetrics", fn := fun _ => fun
  | [d1, d2, d3] => { results := [.lit (.bool true)], args := [d1, d2, d3] }
  | _ => none }
def locaMetricsRow : OpenClaim := { program := "ytcclmaicdmogjaa", sum := "06e3d4ac44df8324cf809124ef2094c325f61b561b1bcd1582027442ee486999", func := "calamus/calamuslaw06.LocaMetrics", spec := "locaMetrics", unfollowed := true, recurses := true, apart := false }
def LocaMetricsSaid : Prop := locaMetricsRow.holds Try.pinned (OpenSpec.ofChange locaMetricsSpec)

/-- ITS FALSE NEIGHBOUR: 'it returns false'. Refute it at one input. -/
def locaMetricsWrong : ChangeSpec := { name := "locaMetrics", fn := fun _ => fun
  | [d1, d2, d3] => { results := [.lit (.bool false)], args := [d1, d2, d3] }
  | _ => none }
def LocaMetricsWrongFalsely : Prop := locaMetricsRow.holds Try.pinned (OpenSpec.ofChange locaMetricsWrong)

/-- 'calamuslaw06.LocaLong': WHATEVER THE INPUT: true; the input reads as it did. -/
def locaLongSpec : ChangeSpec := { name := "locaLong", fn := fun _ => fun
  | [d] => { results := [.lit (.bool true)], args := [d] }
  | _ => none }
def locaLongRow : OpenClaim := { program := "ytcclmaicdmogjaa", sum := "06e3d4ac44df8324cf809124ef2094c325f61b561b1bcd1582027442ee486999", func := "calamus/calamuslaw06.LocaLong", spec := "locaLong", unfollowed := true, recurses := true, apart := false }
def LocaLongSaid : Prop := locaLongRow.holds Try.pinned (OpenSpec.ofChange locaLongSpec)

/-- ITS FALSE NEIGHBOUR: 'it returns false'. Refute it at one input. -/
def locaLongWrong : ChangeSpec := { name := "locaLong", fn := fun _ => fun
  | [d] => { results := [.lit (.bool false)], args := [d] }
  | _ => none }
def LocaLongWrongFalsely : Prop := locaLongRow.holds Try.pinned (OpenSpec.ofChange locaLongWrong)

/-- 'calamuslaw06.LocaPuts': WHATEVER THE INPUT: true; the input reads as it did. -/
def locaPutsSpec : ChangeSpec := { name := "locaPuts", fn := fun _ => fun
  | [d1, d2] => { results := [.lit (.bool true)], args := [d1, d2] }
  | _ => none }
def locaPutsRow : OpenClaim := { program := "ytcclmaicdmogjaa", sum := "06e3d4ac44df8324cf809124ef2094c325f61b561b1bcd1582027442ee486999", func := "calamus/calamuslaw06.LocaPuts", spec := "locaPuts", unfollowed := true, recurses := true, apart := false }
def LocaPutsSaid : Prop := locaPutsRow.holds Try.pinned (OpenSpec.ofChange locaPutsSpec)

/-- ITS FALSE NEIGHBOUR: 'it returns false'. Refute it at one input. -/
def locaPutsWrong : ChangeSpec := { name := "locaPuts", fn := fun _ => fun
  | [d1, d2] => { results := [.lit (.bool false)], args := [d1, d2] }
  | _ => none }
def LocaPutsWrongFalsely : Prop := locaPutsRow.holds Try.pinned (OpenSpec.ofChange locaPutsWrong)

/-- 'calamuslaw04.SfntWrites': WHATEVER THE INPUT: true; the input reads as it did. -/
def sfntWritesSpec : ChangeSpec := { name := "sfntWrites", fn := fun _ => fun
  | [d] => { results := [.lit (.bool true)], args := [d] }
  | _ => none }
def sfntWritesRow : OpenClaim := { program := "ytcclmaicdmogjaa", sum := "06e3d4ac44df8324cf809124ef2094c325f61b561b1bcd1582027442ee486999", func := "calamus/calamuslaw04.SfntWrites", spec := "sfntWrites", apart := false }
def SfntWritesSaid : Prop := sfntWritesRow.holds Try.pinned (OpenSpec.ofChange sfntWritesSpec)

/-- ITS FALSE NEIGHBOUR: 'it returns false'. Refute it at one input. -/
def sfntWritesWrong : ChangeSpec := { name := "sfntWrites", fn := fun _ => fun
  | [d] => { results := [.lit (.bool false)], args := [d] }
  | _ => none }
def SfntWritesWrongFalsely : Prop := sfntWritesRow.holds Try.pinned (OpenSpec.ofChange sfntWritesWrong)

/-- 'calamuslaw04.SfntBack': WHATEVER THE INPUT: true; the input reads as it did. -/
def sfntBackSpec : ChangeSpec := { name := "sfntBack", fn := fun _ => fun
  | [d] => { results := [.lit (.bool true)], args := [d] }
  | _ => none }
def sfntBackRow : OpenClaim := { program := "ytcclmaicdmogjaa", sum := "06e3d4ac44df8324cf809124ef2094c325f61b561b1bcd1582027442ee486999", func := "calamus/calamuslaw04.SfntBack", spec := "sfntBack", apart := false }
def SfntBackSaid : Prop := sfntBackRow.holds Try.pinned (OpenSpec.ofChange sfntBackSpec)

/-- ITS FALSE NEIGHBOUR: 'it returns false'. Refute it at one input. -/
def sfntBackWrong : ChangeSpec := { name := "sfntBack", fn := fun _ => fun
  | [d] => { results := [.lit (.bool false)], args := [d] }
  | _ => none }
def SfntBackWrongFalsely : Prop := sfntBackRow.holds Try.pinned (OpenSpec.ofChange sfntBackWrong)

/-- 'calamuslaw04.SfntTurned': WHATEVER THE INPUT: true; the input reads as it did. -/
def sfntTurnedSpec : ChangeSpec := { name := "sfntTurned", fn := fun _ => fun
  | [d1, d2, d3] => { results := [.lit (.bool true)], args := [d1, d2, d3] }
  | _ => none }
def sfntTurnedRow : OpenClaim := { program := "ytcclmaicdmogjaa", sum := "06e3d4ac44df8324cf809124ef2094c325f61b561b1bcd1582027442ee486999", func := "calamus/calamuslaw04.SfntTurned", spec := "sfntTurned", apart := false }
def SfntTurnedSaid : Prop := sfntTurnedRow.holds Try.pinned (OpenSpec.ofChange sfntTurnedSpec)

/-- ITS FALSE NEIGHBOUR: 'it returns false'. Refute it at one input. -/
def sfntTurnedWrong : ChangeSpec := { name := "sfntTurned", fn := fun _ => fun
  | [d1, d2, d3] => { results := [.lit (.bool false)], args := [d1, d2, d3] }
  | _ => none }
def SfntTurnedWrongFalsely : Prop := sfntTurnedRow.holds Try.pinned (OpenSpec.ofChange sfntTurnedWrong)

/-- 'calamuslaw04.SfntMagic': WHATEVER THE INPUT: true; the input reads as it did. -/
def sfntMagicSpec : ChangeSpec := { name := "sfntMagic", fn := fun _ => fun
  | [d1, d2] => { results := [.lit (.bool true)], args := [d1, d2] }
  | _ => none }
def sfntMagicRow : OpenClaim := { program := "ytcclmaicdmogjaa", sum := "06e3d4ac44df8324cf809124ef2094c325f61b561b1bcd1582027442ee486999", func := "calamus/calamuslaw04.SfntMagic", spec := "sfntMagic", inPlace := ["slices.overlaps[calamus/api.Table]"], unfollowed := true, recurses := true, apart := false }
def SfntMagicSaid : Prop := sfntMagicRow.holds Try.pinned (OpenSpec.ofChange sfntMagicSpec)

/-- ITS FALSE NEIGHBOUR: 'it returns false'. Refute it at one input. -/
def sfntMagicWrong : ChangeSpec := { name := "sfntMagic", fn := fun _ => fun
  | [d1, d2] => { results := [.lit (.bool false)], args := [d1, d2] }
  | _ => none }
def SfntMagicWrongFalsely : Prop := sfntMagicRow.holds Try.pinned (OpenSpec.ofChange sfntMagicWrong)

/-- 'calamuslaw04.SfntFinds': WHATEVER THE INPUT: true; the input reads as it did. -/
def sfntFindsSpec : ChangeSpec := { name := "sfntFinds", fn := fun _ => fun
  | [d1, d2] => { results := [.lit (.bool true)], args := [d1, d2] }
  | _ => none }
def sfntFindsRow : OpenClaim := { program := "ytcclmaicdmogjaa", sum := "06e3d4ac44df8324cf809124ef2094c325f61b561b1bcd1582027442ee486999", func := "calamus/calamuslaw04.SfntFinds", spec := "sfntFinds", inPlace := ["slices.overlaps[calamus/api.Table]"], unfollowed := true, recurses := true, apart := false }
def SfntFindsSaid : Prop := sfntFindsRow.holds Try.pinned (OpenSpec.ofChange sfntFindsSpec)

/-- ITS FALSE NEIGHBOUR: 'it returns false'. Refute it at one input. -/
def sfntFindsWrong : ChangeSpec := { name := "sfntFinds", fn := fun _ => fun
  | [d1, d2] => { results := [.lit (.bool false)], args := [d1, d2] }
  | _ => none }
def SfntFindsWrongFalsely : Prop := sfntFindsRow.holds Try.pinned (OpenSpec.ofChange sfntFindsWrong)

/- THE SECOND FORM. 'bulk': how many values and letters a reading holds, each counted each time it is reached (what is shared counts as often as it is met; a slice's spare places count too). A statement '..UptoSaid' is the law's where the arguments, and the package variables that the reading takes, are together of bulk at most 1048576: NARROWER than '..Said'. Prove '..Said' where nothing that the law and all that it calls make is longer than what came in: it says more and counts as full. Else prove '..UptoSaid'. A law counts once. -/
mutual
def uptoBulk {H : Type} : DataW H → Nat
  | .lit (.string bytes) => bytes.length + 1
  | .lit _ => 1
  | .nil => 1
  | .ptr d => uptoBulk d + 1
  | .slice elems spare => uptoBulkAll elems + uptoBulkAll spare + 1
  | .agg parts => uptoBulkAll parts + 1
  | .iface _ d => uptoBulk d + 1
  | .map entries => uptoBulkEntries entries + 1
  | .held _ => 1
def uptoBulkAll {H : Type} : List (DataW H) → Nat
  | [] => 0
  | d :: r => uptoBulk d + uptoBulkAll r
def uptoBulkEntries {H : Type} : List (Lit × DataW H) → Nat
  | [] => 0
  | x :: r => uptoBulkEntry x + uptoBulkEntries r
def uptoBulkEntry {H : Type} : Lit × DataW H → Nat
  | (.string bytes, d) => bytes.length + uptoBulk d + 1
  | (_, d) => uptoBulk d + 1
 end
def uptoSmall : (H : Type) → List (DataW H) → Bool := fun _ ds => decide (uptoBulkAll ds ≤ 1048576)
def OpenSpec.upto (s : _root_.Go.ChangeSpec) : _root_.Go.OpenSpec := { _root_.Go.OpenSpec.ofChange s with cond := some uptoSmall }

/-- 'calamuslaw03.TabsumIs', WHERE WHAT IT READS IS OF BULK AT MOST 1048576: true; the input reads as it did. -/
def tabsumIsUptoRow : OpenClaim := { program := "ytcclmaicdmogjaa", sum := "06e3d4ac44df8324cf809124ef2094c325f61b561b1bcd1582027442ee486999", func := "calamus/calamuslaw03.TabsumIs", spec := "tabsumIs", apart := false, narrowed := true }
def TabsumIsUptoSaid : Prop := tabsumIsUptoRow.holds Try.pinned (OpenSpec.upto tabsumIsSpec)

/-- 'calamuslaw03.TabsumPieces', WHERE WHAT IT READS IS OF BULK AT MOST 1048576: true; the input reads as it did. -/
def tabsumPiecesUptoRow : OpenClaim := { program := "ytcclmaicdmogjaa", sum := "06e3d4ac44df8324cf809124ef2094c325f61b561b1bcd1582027442ee486999", func := "calamus/calamuslaw03.TabsumPieces", spec := "tabsumPieces", apart := false, narrowed := true }
def TabsumPiecesUptoSaid : Prop := tabsumPiecesUptoRow.holds Try.pinned (OpenSpec.upto tabsumPiecesSpec)

/-- 'calamuslaw03.TabsumPads', WHERE WHAT IT READS IS OF BULK AT MOST 1048576: true; the input reads as it did. -/
def tabsumPadsUptoRow : OpenClaim := { program := "ytcclmaicdmogjaa", sum := "06e3d4ac44df8324cf809124ef2094c325f61b561b1bcd1582027442ee486999", func := "calamus/calamuslaw03.TabsumPads", spec := "tabsumPads", apart := false, narrowed := true }
def TabsumPadsUptoSaid : Prop := tabsumPadsUptoRow.holds Try.pinned (OpenSpec.upto tabsumPadsSpec)

/-- 'calamuslaw03.TabsumAdjusts', WHERE WHAT IT READS IS OF BULK AT MOST 1048576: true; the input reads as it did. -/
def tabsumAdjustsUptoRow : OpenClaim := { program := "ytcclmaicdmogjaa", sum := "06e3d4ac44df8324cf809124ef2094c325f61b561b1bcd1582027442ee486999", func := "calamus/calamuslaw03.TabsumAdjusts", spec := "tabsumAdjusts", apart := false, narrowed := true }
def TabsumAdjustsUptoSaid : Prop := tabsumAdjustsUptoRow.holds Try.pinned (OpenSpec.upto tabsumAdjustsSpec)

/-- 'calamuslaw03.TabsumTurns', WHERE WHAT IT READS IS OF BULK AT MOST 1048576: true; the input reads as it did. -/
def tabsumTurnsUptoRow : OpenClaim := { program := "ytcclmaicdmogjaa", sum := "06e3d4ac44df8324cf809124ef2094c325f61b561b1bcd1582027442ee486999", func := "calamus/calamuslaw03.TabsumTurns", spec := "tabsumTurns", apart := false, narrowed := true }
def TabsumTurnsUptoSaid : Prop := tabsumTurnsUptoRow.holds Try.pinned (OpenSpec.upto tabsumTurnsSpec)

/-- 'calamuslaw02.BeReads', WHERE WHAT IT READS IS OF BULK AT MOST 1048576: true; the input reads as it did. -/
def beReadsUptoRow : OpenClaim := { program := "ytcclmaicdmogjaa", sum := "06e3d4ac44df8324cf809124ef2094c325f61b561b1bcd1582027442ee486999", func := "calamus/calamuslaw02.BeReads", spec := "beReads", apart := false, narrowed := true }
def BeReadsUptoSaid : Prop := beReadsUptoRow.holds Try.pinned (OpenSpec.upto beReadsSpec)

/-- 'calamuslaw02.BePuts', WHERE WHAT IT READS IS OF BULK AT MOST 1048576: true; the input reads as it did. -/
def bePutsUptoRow : OpenClaim := { program := "ytcclmaicdmogjaa", sum := "06e3d4ac44df8324cf809124ef2094c325f61b561b1bcd1582027442ee486999", func := "calamus/calamuslaw02.BePuts", spec := "bePuts", apart := false, narrowed := true }
def BePutsUptoSaid : Prop := bePutsUptoRow.holds Try.pinned (OpenSpec.upto bePutsSpec)

/-- 'calamuslaw02.BeBack', WHERE WHAT IT READS IS OF BULK AT MOST 1048576: true; the input reads as it did. -/
def beBackUptoRow : OpenClaim := { program := "ytcclmaicdmogjaa", sum := "06e3d4ac44df8324cf809124ef2094c325f61b561b1bcd1582027442ee486999", func := "calamus/calamuslaw02.BeBack", spec := "beBack", apart := false, narrowed := true }
def BeBackUptoSaid : Prop := beBackUptoRow.holds Try.pinned (OpenSpec.upto beBackSpec)

/-- 'calamuslaw02.BeCuts', WHERE WHAT IT READS IS OF BULK AT MOST 1048576: true; the input reads as it did. -/
def beCutsUptoRow : OpenClaim := { program := "ytcclmaicdmogjaa", sum := "06e3d4ac44df8324cf809124ef2094c325f61b561b1bcd1582027442ee486999", func := "calamus/calamuslaw02.BeCuts", spec := "beCuts", apart := false, narrowed := true }
def BeCutsUptoSaid : Prop := beCutsUptoRow.holds Try.pinned (OpenSpec.upto beCutsSpec)

/-- 'calamuslaw02.BeLaid', WHERE WHAT IT READS IS OF BULK AT MOST 1048576: true; the input reads as it did. -/
def beLaidUptoRow : OpenClaim := { program := "ytcclmaicdmogjaa", sum := "06e3d4ac44df8324cf809124ef2094c325f61b561b1bcd1582027442ee486999", func := "calamus/calamuslaw02.BeLaid", spec := "beLaid", apart := false, narrowed := true }
def BeLaidUptoSaid : Prop := beLaidUptoRow.holds Try.pinned (OpenSpec.upto beLaidSpec)

/-- 'calamuslaw05.HeadPuts', WHERE WHAT IT READS IS OF BULK AT MOST 1048576: true; the input reads as it did. -/
def headPutsUptoRow : OpenClaim := { program := "ytcclmaicdmogjaa", sum := "06e3d4ac44df8324cf809124ef2094c325f61b561b1bcd1582027442ee486999", func := "calamus/calamuslaw05.HeadPuts", spec := "headPuts", apart := false, narrowed := true }
def HeadPutsUptoSaid : Prop := headPutsUptoRow.holds Try.pinned (OpenSpec.upto headPutsSpec)

/-- 'calamuslaw06.LocaReads', WHERE WHAT IT READS IS OF BULK AT MOST 1048576: true; the input reads as it did. -/
def locaReadsUptoRow : OpenClaim := { program := "ytcclmaicdmogjaa", sum := "06e3d4ac44df8324cf809124ef2094c325f61b561b1bcd1582027442ee486999", func := "calamus/calamuslaw06.LocaReads", spec := "locaReads", unfollowed := true, recurses := true, apart := false, narrowed := true }
def LocaReadsUptoSaid : Prop := locaReadsUptoRow.holds Try.pinned (OpenSpec.upto locaReadsSpec)

/-- 'calamuslaw06.LocaWrites', WHERE WHAT IT READS IS OF BULK AT MOST 1048576: true; the input reads as it did. -/
def locaWritesUptoRow : OpenClaim := { program := "ytcclmaicdmogjaa", sum := "06e3d4ac44df8324cf809124ef2094c325f61b561b1bcd1582027442ee486999", func := "calamus/calamuslaw06.LocaWrites", spec := "locaWrites", unfollowed := true, recurses := true, apart := false, narrowed := true }
def LocaWritesUptoSaid : Prop := locaWritesUptoRow.holds Try.pinned (OpenSpec.upto locaWritesSpec)

/-- 'calamuslaw06.LocaBack', WHERE WHAT IT READS IS OF BULK AT MOST 1048576: true; the input reads as it did. -/
def locaBackUptoRow : OpenClaim := { program := "ytcclmaicdmogjaa", sum := "06e3d4ac44df8324cf809124ef2094c325f61b561b1bcd1582027442ee486999", func := "calamus/calamuslaw06.LocaBack", spec := "locaBack", unfollowed := true, recurses := true, apart := false, narrowed := true }
def LocaBackUptoSaid : Prop := locaBackUptoRow.holds Try.pinned (OpenSpec.upto locaBackSpec)

/-- 'calamuslaw06.LocaMetrics', WHERE WHAT IT READS IS OF BULK AT MOST 1048576: true; the input reads as it did. -/
def locaMetricsUptoRow : OpenClaim := { program := "ytcclmaicdmogjaa", sum := "06e3d4ac44df8324cf809124ef2094c325f61b561b1bcd1582027442ee486999", func := "calamus/calamuslaw06.LocaMetrics", spec := "locaMetrics", unfollowed := true, recurses := true, apart := false, narrowed := true }
def LocaMetricsUptoSaid : Prop := locaMetricsUptoRow.holds Try.pinned (OpenSpec.upto locaMetricsSpec)

/-- 'calamuslaw06.LocaLong', WHERE WHAT IT READS IS OF BULK AT MOST 1048576: true; the input reads as it did. -/
def locaLongUptoRow : OpenClaim := { program := "ytcclmaicdmogjaa", sum := "06e3d4ac44df8324cf809124ef2094c325f61b561b1bcd1582027442ee486999", func := "calamus/calamuslaw06.LocaLong", spec := "locaLong", unfollowed := true, recurses := true, apart := false, narrowed := true }
def LocaLongUptoSaid : Prop := locaLongUptoRow.holds Try.pinned (OpenSpec.upto locaLongSpec)

/-- 'calamuslaw06.LocaPuts', WHERE WHAT IT READS IS OF BULK AT MOST 1048576: true; the input reads as it did. -/
def locaPutsUptoRow : OpenClaim := { program := "ytcclmaicdmogjaa", sum := "06e3d4ac44df8324cf809124ef2094c325f61b561b1bcd1582027442ee486999", func := "calamus/calamuslaw06.LocaPuts", spec := "locaPuts", unfollowed := true, recurses := true, apart := false, narrowed := true }
def LocaPutsUptoSaid : Prop := locaPutsUptoRow.holds Try.pinned (OpenSpec.upto locaPutsSpec)

/-- 'calamuslaw04.SfntWrites', WHERE WHAT IT READS IS OF BULK AT MOST 1048576: true; the input reads as it did. -/
def sfntWritesUptoRow : OpenClaim := { program := "ytcclmaicdmogjaa", sum := "06e3d4ac44df8324cf809124ef2094c325f61b561b1bcd1582027442ee486999", func := "calamus/calamuslaw04.SfntWrites", spec := "sfntWrites", apart := false, narrowed := true }
def SfntWritesUptoSaid : Prop := sfntWritesUptoRow.holds Try.pinned (OpenSpec.upto sfntWritesSpec)

/-- 'calamuslaw04.SfntBack', WHERE WHAT IT READS IS OF BULK AT MOST 1048576: true; the input reads as it did. -/
def sfntBackUptoRow : OpenClaim := { program := "ytcclmaicdmogjaa", sum := "06e3d4ac44df8324cf809124ef2094c325f61b561b1bcd1582027442ee486999", func := "calamus/calamuslaw04.SfntBack", spec := "sfntBack", apart := false, narrowed := true }
def SfntBackUptoSaid : Prop := sfntBackUptoRow.holds Try.pinned (OpenSpec.upto sfntBackSpec)

/-- 'calamuslaw04.SfntTurned', WHERE WHAT IT READS IS OF BULK AT MOST 1048576: true; the input reads as it did. -/
def sfntTurnedUptoRow : OpenClaim := { program := "ytcclmaicdmogjaa", sum := "06e3d4ac44df8324cf809124ef2094c325f61b561b1bcd1582027442ee486999", func := "calamus/calamuslaw04.SfntTurned", spec := "sfntTurned", apart := false, narrowed := true }
def SfntTurnedUptoSaid : Prop := sfntTurnedUptoRow.holds Try.pinned (OpenSpec.upto sfntTurnedSpec)

/-- 'calamuslaw04.SfntMagic', WHERE WHAT IT READS IS OF BULK AT MOST 1048576: true; the input reads as it did. -/
def sfntMagicUptoRow : OpenClaim := { program := "ytcclmaicdmogjaa", sum := "06e3d4ac44df8324cf809124ef2094c325f61b561b1bcd1582027442ee486999", func := "calamus/calamuslaw04.SfntMagic", spec := "sfntMagic", inPlace := ["slices.overlaps[calamus/api.Table]"], unfollowed := true, recurses := true, apart := false, narrowed := true }
def SfntMagicUptoSaid : Prop := sfntMagicUptoRow.holds Try.pinned (OpenSpec.upto sfntMagicSpec)

/-- 'calamuslaw04.SfntFinds', WHERE WHAT IT READS IS OF BULK AT MOST 1048576: true; the input reads as it did. -/
def sfntFindsUptoRow : OpenClaim := { program := "ytcclmaicdmogjaa", sum := "06e3d4ac44df8324cf809124ef2094c325f61b561b1bcd1582027442ee486999", func := "calamus/calamuslaw04.SfntFinds", spec := "sfntFinds", inPlace := ["slices.overlaps[calamus/api.Table]"], unfollowed := true, recurses := true, apart := false, narrowed := true }
def SfntFindsUptoSaid : Prop := sfntFindsUptoRow.holds Try.pinned (OpenSpec.upto sfntFindsSpec)

end Rows
end Go.Proofs.Ytcclmaicdmogjaa
