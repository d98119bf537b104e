/-
  No cell of these rows narrows 'for every input' (looked for: loops, veiled, ifaces, maps, wideKeys, modest, calm, conditions, laid).
  DERIVED. THE GIVEN ROWS OF THIS SEAT. 25 by the template 'for every input the law returns true; each argument reads behind the call as it read before'; 0 by the template 'total and deterministic' (their statements: YtehidhcpdiameaaTotals.lean).
  GIVEN WITH THE SEED: the statements are not yours to turn. If you find one false, say at which input.
  Laid BY PROGRAM, IN A SANDBOX (cutbox-rows.mjs): the forced cells as the released guide's own fill.sh prints them over the translation e6121d6db5b72113… (all of the seat's roots in one cut). By AI agents, Wed Nov 11 2026. No macro, syntax, notation, axiom, sorry.
-/
import Derived.Test.YtehidhcpdiameaaChecked
import GoSem.Claim
import GoSem.ClaimJoined
import GoSem.ClaimMapViews
import Derived.JoinedTies
import Derived.KernelRfl
namespace Go.Proofs.Ytehidhcpdiameaa
/- THE CELL 'sum', in the pinned program and in every row, IS THE sha256 OF THE DUMP (.gsa) THAT YtehidhcpdiameaaProg.lean LOADS. Nothing in Lean hashes anything: it is a label: what it is worth is what the hold of that sum in a sandbox is worth. -/
noncomputable def Try.pinned : Pinned := { name := "ytehidhcpdiameaa", sum := "e6121d6db5b721137924e3e3ece1c95a40a9d96a5b2b8153df2371a1a9f87381", checked := Try.checked }
namespace Rows
def none {H : Type} : Left H := { results := [], args := [] }

/-- 'ossuarylaw02.CrcSums': WHATEVER THE INPUT: true; the input reads as it did. -/
def crcSumsSpec : ChangeSpec := { name := "crcSums", fn := fun _ => fun
  | [d1, d2, d3] => { results := [.lit (.bool true)], args := [d1, d2, d3] }
  | _ => none }
def crcSumsRow : OpenClaim := { program := "ytehidhcpdiameaa", sum := "e6121d6db5b721137924e3e3ece1c95a40a9d96a5b2b8153df2371a1a9f87381", func := "ossuary/ossuarylaw02.CrcSums", spec := "crcSums", apart := false }
def CrcSumsSaid : Prop := crcSumsRow.holds Try.pinned (OpenSpec.ofChange crcSumsSpec)

/-- ITS FALSE NEIGHBOUR: 'it returns false'. Refute it at one input. -/
def crcSumsWrong : ChangeSpec := { name := "crcSums", fn := fun _ => fun
  | [d1, d2, d3] => { results := [.lit (.bool false)], args := [d1, d2, d3] }
  | _ => none }
def CrcSumsWrongFalsely : Prop := crcSumsRow.holds Try.pinned (OpenSpec.ofChange crcSumsWrong)

/-- 'ossuarylaw02.CrcTells': WHATEVER THE INPUT: true; the input reads as it did. -/
def crcTellsSpec : ChangeSpec := { name := "crcTells", fn := fun _ => fun
  | [d1, d2, d3] => { results := [.lit (.bool true)], args := [d1, d2, d3] }
  | _ => none }
def crcTellsRow : OpenClaim := { program := "ytehidhcpdiameaa", sum := "e6121d6db5b721137924e3e3ece1c95a40a9d96a5b2b8153df2371a1a9f87381", func := "ossuary/ossuarylaw02.CrcTells", spec := "crcTells", apart := false }
def CrcTellsSaid : Prop := crcTellsRow.holds Try.pinned (OpenSpec.ofChange crcTellsSpec)

/-- ITS FALSE NEIGHBOUR: 'it returns false'. Refute it at one input. -/
def crcTellsWrong : ChangeSpec := { name := "crcTells", fn := fun _ => fun
  | [d1, d2, d3] => { results := [.lit (.bool false)], args := [d1, d2, d3] }
  | _ => none }
def CrcTellsWrongFalsely : Prop := crcTellsRow.holds Try.pinned (OpenSpec.ofChange crcTellsWrong)

/-- 'ossuarylaw02.CrcMixed': WHATEVER THE INPUT: true; the input reads as it did. -/
def crcMixedSpec : ChangeSpec := { name := "crcMixed", fn := fun _ => fun
  | [d1, d2, d3] => { results := [.lit (.bool true)], args := [d1, d2, d3] }
  | _ => none }
def crcMixedRow : OpenClaim := { program := "ytehidhcpdiameaa", sum := "e6121d6db5b721137924e3e3ece1c95a40a9d96a5b2b8153df2371a1a9f87381", func := "ossuary/ossuarylaw02.CrcMixed", spec := "crcMixed", apart := false }
def CrcMixedSaid : Prop := crcMixedRow.holds Try.pinned (OpenSpec.ofChange crcMixedSpec)

/-- ITS FALSE NEIGHBOUR: 'it returns false'. Refute it at one input. -/
def crcMixedWrong : ChangeSpec := { name := "crcMixed", fn := fun _ => fun
  | [d1, d2, d3] => { results := [.lit (.bool false)], args := [d1, d2, d3] }
  | _ => none }
def CrcMixedWrongFalsely : Prop := crcMixedRow.holds Try.pinned (OpenSpec.ofChange crcMixedWrong)

/-- 'ossuarylaw02.CrcBack': WHATEVER THE INPUT: true; the input reads as it did. -/
def crcBackSpec : ChangeSpec := { name := "crcBack", fn := fun _ => fun
  | [d] => { results := [.lit (.bool true)], args := [d] }
  | _ => none }
def crcBackRow : OpenClaim := { program := "ytehidhcpdiameaa", sum := "e6121d6db5b721137924e3e3ece1c95a40a9d96a5b2b8153df2371a1a9f87381", func := "ossuary/ossuarylaw02.CrcBack", spec := "crcBack", apart := false }
def CrcBackSaid : Prop := crcBackRow.holds Try.pinned (OpenSpec.ofChange crcBackSpec)

/-- ITS FALSE NEIGHBOUR: 'it returns false'. Refute it at one input. -/
def crcBackWrong : ChangeSpec := { name := "crcBack", fn := fun _ => fun
  | [d] => { results := [.lit (.bool false)], args := [d] }
  | _ => none }
def CrcBackWrongFalsely : Prop := crcBackRow.holds Try.pinned (OpenSpec.ofChange crcBackWrong)

/-- 'ossuarylaw02.CrcLonger': WHATEVER THE INPUT: true; the input reads as it did. -/
def crcLongerSpec : ChangeSpec := { name := "crcLonger", fn := fun _ => fun
  | [d1, d2] => { results := [.lit (.bool true)], args := [d1, d2] }
  | _ => none }
def crcLongerRow : OpenClaim := { program := "ytehidhcpdiameaa", sum := "e6121d6db5b721137924e3e3ece1c95a40a9d96a5b2b8153df2371a1a9f87381", func := "ossuary/ossuarylaw02.CrcLonger", spec := "crcLonger", apart := false }
def CrcLongerSaid : Prop := crcLongerRow.holds Try.pinned (OpenSpec.ofChange crcLongerSpec)

/-- ITS FALSE NEIGHBOUR: 'it returns false'. Refute it at one input. -/
def crcLongerWrong : ChangeSpec := { name := "crcLonger", fn := fun _ => fun
  | [d1, d2] => { results := [.lit (.bool false)], args := [d1, d2] }
  | _ => none }
def CrcLongerWrongFalsely : Prop := crcLongerRow.holds Try.pinned (OpenSpec.ofChange crcLongerWrong)

/-- 'ossuarylaw10.WireTells': WHATEVER THE INPUT: true; the input reads as it did. -/
def wireTellsSpec : ChangeSpec := { name := "wireTells", fn := fun _ => fun
  | [d1, d2, d3] => { results := [.lit (.bool true)], args := [d1, d2, d3] }
  | _ => none }
def wireTellsRow : OpenClaim := { program := "ytehidhcpdiameaa", sum := "e6121d6db5b721137924e3e3ece1c95a40a9d96a5b2b8153df2371a1a9f87381", func := "ossuary/ossuarylaw10.WireTells", spec := "wireTells", inPlace := ["internal/abi.NoEscape"], apart := false }
def WireTellsSaid : Prop := wireTellsRow.holds Try.pinned (OpenSpec.ofChange wireTellsSpec)

/-- ITS FALSE NEIGHBOUR: 'it returns false'. Refute it at one input. -/
def wireTellsWrong : ChangeSpec := { name := "wireTells", fn := fun _ => fun
  | [d1, d2, d3] => { results := [.lit (.bool false)], args := [d1, d2, d3] }
  | _ => none }
def WireTellsWrongFalsely : Prop := wireTellsRow.holds Try.pinned (OpenSpec.ofChange wireTellsWrong)

/-- 'ossuarylaw10.WireBack': WHATEVER THE INPUT: true; the input reads as it did. -/
def wireBackSpec : ChangeSpec := { name := "wireBack", fn := fun _ => fun
  | [d1, d2, d3] => { results := [.lit (.bool true)], args := [d1, d2, d3] }
  | _ => none }
def wireBackRow : OpenClaim := { program := "ytehidhcpdiameaa", sum := "e6121d6db5b721137924e3e3ece1c95a40a9d96a5b2b8153df2371a1a9f87381", func := "ossuary/ossuarylaw10.WireBack", spec := "wireBack", inPlace := ["internal/abi.NoEscape"], apart := false }
def WireBackSaid : Prop := wireBackRow.holds Try.pinned (OpenSpec.ofChange wireBackSpec)

/-- ITS FALSE NEIGHBOUR: 'it returns false'. Refute it at one input. -/
def wireBackWrong : ChangeSpec := { name := "wireBack", fn := fun _ => fun
  | [d1, d2, d3] => { results := [.lit (.bool false)], args := [d1, d2, d3] }
  | _ => none }
def WireBackWrongFalsely : Prop := wireBackRow.holds Try.pinned (OpenSpec.ofChange wireBackWrong)

/-- 'ossuarylaw10.WireOnce': WHATEVER THE INPUT: true; the input reads as it did. -/
def wireOnceSpec : ChangeSpec := { name := "wireOnce", fn := fun _ => fun
  | [d1, d2, d3] => { results := [.lit (.bool true)], args := [d1, d2, d3] }
  | _ => none }
def wireOnceRow : OpenClaim := { program := "ytehidhcpdiameaa", sum := "e6121d6db5b721137924e3e3ece1c95a40a9d96a5b2b8153df2371a1a9f87381", func := "ossuary/ossuarylaw10.WireOnce", spec := "wireOnce", inPlace := ["internal/abi.NoEscape"], apart := false }
def WireOnceSaid : Prop := wireOnceRow.holds Try.pinned (OpenSpec.ofChange wireOnceSpec)

/-- ITS FALSE NEIGHBOUR: 'it returns false'. Refute it at one input. -/
def wireOnceWrong : ChangeSpec := { name := "wireOnce", fn := fun _ => fun
  | [d1, d2, d3] => { results := [.lit (.bool false)], args := [d1, d2, d3] }
  | _ => none }
def WireOnceWrongFalsely : Prop := wireOnceRow.holds Try.pinned (OpenSpec.ofChange wireOnceWrong)

/-- 'ossuarylaw10.WireShort': WHATEVER THE INPUT: true; the input reads as it did. -/
def wireShortSpec : ChangeSpec := { name := "wireShort", fn := fun _ => fun
  | [d1, d2] => { results := [.lit (.bool true)], args := [d1, d2] }
  | _ => none }
def wireShortRow : OpenClaim := { program := "ytehidhcpdiameaa", sum := "e6121d6db5b721137924e3e3ece1c95a40a9d96a5b2b8153df2371a1a9f87381", func := "ossuary/ossuarylaw10.WireShort", spec := "wireShort", inPlace := ["internal/abi.NoEscape"], apart := false }
def WireShortSaid : Prop := wireShortRow.holds Try.pinned (OpenSpec.ofChange wireShortSpec)

/-- ITS FALSE NEIGHBOUR: 'it returns false'. Refute it at one input. -/
def wireShortWrong : ChangeSpec := { name := "wireShort", fn := fun _ => fun
  | [d1, d2] => { results := [.lit (.bool false)], args := [d1, d2] }
  | _ => none }
def WireShortWrongFalsely : Prop := wireShortRow.holds Try.pinned (OpenSpec.ofChange wireShortWrong)

/-- 'ossuarylaw10.WireLists': WHATEVER THE INPUT: true; the input reads as it did. -/
def wireListsSpec : ChangeSpec := { name := "wireLists", fn := fun _ => fun
  | [d1, d2] => { results := [.lit (.bool true)], args := [d1, d2] }
  | _ => none }
def wireListsRow : OpenClaim := { program := "ytehidhcpdiameaa", sum := "e6121d6db5b721137924e3e3ece1c95a40a9d96a5b2b8153df2371a1a9f87381", func := "ossuary/ossuarylaw10.WireLists", spec := "wireLists", inPlace := ["internal/abi.NoEscape"], apart := false }
def WireListsSaid : Prop := wireListsRow.holds Try.pinned (OpenSpec.ofChange wireListsSpec)

/-- ITS FALSE NEIGHBOUR: 'it returns false'. Refute it at one input. -/
def wireListsWrong : ChangeSpec := { name := "wireLists", fn := fun _ => fun
  | [d1, d2] => { results := [.lit (.bool false)], args := [d1, d2] }
  | _ => none }
def WireListsWrongFalsely : Prop := wireListsRow.holds Try.pinned (OpenSpec.ofChange wireListsWrong)

/-- 'ossuarylaw11.PageTells': WHATEVER THE INPUT: true; the input reads as it did. -/
def pageTellsSpec : ChangeSpec := { name := "pageTells", fn := fun _ => fun
  | [d1, d2, d3] => { results := [.lit (.bool true)], args := [d1, d2, d3] }
  | _ => none }
def pageTellsRow : OpenClaim := { program := "ytehidhcpdiameaa", sum := "e6121d6db5b721137924e3e3ece1c95a40a9d96a5b2b8153df2371a1a9f87381", func := "ossuary/ossuarylaw11.PageTells", spec := "pageTells", inPlace := ["internal/abi.NoEscape", "internal/bytealg.MakeNoZero"], apart := false }
def PageTellsSaid : Prop := pageTellsRow.holds Try.pinned (OpenSpec.ofChange pageTellsSpec)

/-- ITS FALSE NEIGHBOUR: 'it returns false'. Refute it at one input. -/
def pageTellsWrong : ChangeSpec := { name := "pageTells", fn := fun _ => fun
  | [d1, d2, d3] => { results := [.lit (.bool false)], args := [d1, d2, d3] }
  | _ => none }
def PageTellsWrongFalsely : Prop := pageTellsRow.holds Try.pinned (OpenSpec.ofChange pageTellsWrong)

/-- 'ossuarylaw11.PageBack': WHATEVER THE INPUT: true; the input reads as it did. -/
def pageBackSpec : ChangeSpec := { name := "pageBack", fn := fun _ => fun
  | [d1, d2] => { results := [.lit (.bool true)], args := [d1, d2] }
  | _ => none }
def pageBackRow : OpenClaim := { program := "ytehidhcpdiameaa", sum := "e6121d6db5b721137924e3e3ece1c95a40a9d96a5b2b8153df2371a1a9f87381", func := "ossuary/ossuarylaw11.PageBack", spec := "pageBack", inPlace := ["internal/abi.NoEscape", "internal/bytealg.MakeNoZero"], apart := false }
def PageBackSaid : Prop := pageBackRow.holds Try.pinned (OpenSpec.ofChange pageBackSpec)

/-- ITS FALSE NEIGHBOUR: 'it returns false'. Refute it at one input. -/
def pageBackWrong : ChangeSpec := { name := "pageBack", fn := fun _ => fun
  | [d1, d2] => { results := [.lit (.bool false)], args := [d1, d2] }
  | _ => none }
def PageBackWrongFalsely : Prop := pageBackRow.holds Try.pinned (OpenSpec.ofChange pageBackWrong)

/-- 'ossuarylaw11.PageOnce': WHATEVER THE INPUT: true; the input reads as it did. -/
def pageOnceSpec : ChangeSpec := { name := "pageOnce", fn := fun _ => fun
  | [d1, d2] => { results := [.lit (.bool true)], args := [d1, d2] }
  | _ => none }
def pageOnceRow : OpenClaim := { program := "ytehidhcpdiameaa", sum := "e6121d6db5b721137924e3e3ece1c95a40a9d96a5b2b8153df2371a1a9f87381", func := "ossuary/ossuarylaw11.PageOnce", spec := "pageOnce", inPlace := ["internal/abi.NoEscape", "internal/bytealg.MakeNoZero"], apart := false }
def PageOnceSaid : Prop := pageOnceRow.holds Try.pinned (OpenSpec.ofChange pageOnceSpec)

/-- ITS FALSE NEIGHBOUR: 'it returns false'. Refute it at one input. -/
def pageOnceWrong : ChangeSpec := { name := "pageOnce", fn := fun _ => fun
  | [d1, d2] => { results := [.lit (.bool false)], args := [d1, d2] }
  | _ => none }
def PageOnceWrongFalsely : Prop := pageOnceRow.holds Try.pinned (OpenSpec.ofChange pageOnceWrong)

/-- 'ossuarylaw11.PageTorn': WHATEVER THE INPUT: true; the input reads as it did. -/
def pageTornSpec : ChangeSpec := { name := "pageTorn", fn := fun _ => fun
  | [d1, d2, d3] => { results := [.lit (.bool true)], args := [d1, d2, d3] }
  | _ => none }
def pageTornRow : OpenClaim := { program := "ytehidhcpdiameaa", sum := "e6121d6db5b721137924e3e3ece1c95a40a9d96a5b2b8153df2371a1a9f87381", func := "ossuary/ossuarylaw11.PageTorn", spec := "pageTorn", inPlace := ["internal/abi.NoEscape", "internal/bytealg.MakeNoZero"], apart := false }
def PageTornSaid : Prop := pageTornRow.holds Try.pinned (OpenSpec.ofChange pageTornSpec)

/-- ITS FALSE NEIGHBOUR: 'it returns false'. Refute it at one input. -/
def pageTornWrong : ChangeSpec := { name := "pageTorn", fn := fun _ => fun
  | [d1, d2, d3] => { results := [.lit (.bool false)], args := [d1, d2, d3] }
  | _ => none }
def PageTornWrongFalsely : Prop := pageTornRow.holds Try.pinned (OpenSpec.ofChange pageTornWrong)

/-- 'ossuarylaw11.PageNeed': WHATEVER THE INPUT: true; the input reads as it did. -/
def pageNeedSpec : ChangeSpec := { name := "pageNeed", fn := fun _ => fun
  | [d1, d2, d3] => { results := [.lit (.bool true)], args := [d1, d2, d3] }
  | _ => none }
def pageNeedRow : OpenClaim := { program := "ytehidhcpdiameaa", sum := "e6121d6db5b721137924e3e3ece1c95a40a9d96a5b2b8153df2371a1a9f87381", func := "ossuary/ossuarylaw11.PageNeed", spec := "pageNeed", inPlace := ["internal/abi.NoEscape", "internal/bytealg.MakeNoZero"], apart := false }
def PageNeedSaid : Prop := pageNeedRow.holds Try.pinned (OpenSpec.ofChange pageNeedSpec)

/-- ITS FALSE NEIGHBOUR: 'it returns false'. Refute it at one input. -/
def pageNeedWrong : ChangeSpec := { name := "pageNeed", fn := fun _ => fun
  | [d1, d2, d3] => { results := [.lit (.bool false)], args := [d1, d2, d3] }
  | _ => none }
def PageNeedWrongFalsely : Prop := pageNeedRow.holds Try.pinned (OpenSpec.ofChange pageNeedWrong)

/-- 'ossuarylaw09.DeviceFuse': WHATEVER THE INPUT: true; the input reads as it did. -/
def deviceFuseSpec : ChangeSpec := { name := "deviceFuse", fn := fun _ => fun
  | [d1, d2] => { results := [.lit (.bool true)], args := [d1, d2] }
  | _ => none }
def deviceFuseRow : OpenClaim := { program := "ytehidhcpdiameaa", sum := "e6121d6db5b721137924e3e3ece1c95a40a9d96a5b2b8153df2371a1a9f87381", func := "ossuary/ossuarylaw09.DeviceFuse", spec := "deviceFuse", inPlace := ["internal/abi.NoEscape", "internal/bytealg.MakeNoZero"], unfollowed := true, recurses := true, apart := false }
def DeviceFuseSaid : Prop := deviceFuseRow.holds Try.pinned (OpenSpec.ofChange deviceFuseSpec)

/-- ITS FALSE NEIGHBOUR: 'it returns false'. Refute it at one input. -/
def deviceFuseWrong : ChangeSpec := { name := "deviceFuse", fn := fun _ => fun
  | [d1, d2] => { results := [.lit (.bool false)], args := [d1, d2] }
  | _ => none }
def DeviceFuseWrongFalsely : Prop := deviceFuseRow.holds Try.pinned (OpenSpec.ofChange deviceFuseWrong)

/-- 'ossuarylaw09.DeviceTells': WHATEVER THE INPUT: true; the input reads as it did. -/
def deviceTellsSpec : ChangeSpec := { name := "deviceTells", fn := fun _ => fun
  | [d1, d2] => { results := [.lit (.bool true)], args := [d1, d2] }
  | _ => none }
def deviceTellsRow : OpenClaim := { program := "ytehidhcpdiameaa", sum := "e6121d6db5b721137924e3e3ece1c95a40a9d96a5b2b8153df2371a1a9f87381", func := "ossuary/ossuarylaw09.DeviceTells", spec := "deviceTells", inPlace := ["internal/abi.NoEscape", "internal/bytealg.MakeNoZero"], unfollowed := true, recurses := true, apart := false }
def DeviceTellsSaid : Prop := deviceTellsRow.holds Try.pinned (OpenSpec.ofChange deviceTellsSpec)

/-- ITS FALSE NEIGHBOUR: 'it returns false'. Refute it at one input. -/
def deviceTellsWrong : ChangeSpec := { name := "deviceTells", fn := fun _ => fun
  | [d1, d2] => { results := [.lit (.bool false)], args := [d1, d2] }
  | _ => none }
def DeviceTellsWrongFalsely : Prop := deviceTellsRow.holds Try.pinned (OpenSpec.ofChange deviceTellsWrong)

/-- 'ossuarylaw09.DeviceWrites': WHATEVER THE INPUT: true; the input reads as it did. -/
def deviceWritesSpec : ChangeSpec := { name := "deviceWrites", fn := fun _ => fun
  | [d1, d2, d3] => { results := [.lit (.bool true)], args := [d1, d2, d3] }
  | _ => none }
def deviceWritesRow : OpenClaim := { program := "ytehidhcpdiameaa", sum := "e6121d6db5b721137924e3e3ece1c95a40a9d96a5b2b8153df2371a1a9f87381", func := "ossuary/ossuarylaw09.DeviceWrites", spec := "deviceWrites", inPlace := ["internal/abi.NoEscape", "internal/bytealg.MakeNoZero"], unfollowed := true, recurses := true, apart := false }
def DeviceWritesSaid : Prop := deviceWritesRow.holds Try.pinned (OpenSpec.ofChange deviceWritesSpec)

/-- ITS FALSE NEIGHBOUR: 'it returns false'. Refute it at one input. -/
def deviceWritesWrong : ChangeSpec := { name := "deviceWrites", fn := fun _ => fun
  | [d1, d2, d3] => { results := [.lit (.bool false)], args := [d1, d2, d3] }
  | _ => none }
def DeviceWritesWrongFalsely : Prop := deviceWritesRow.holds Try.pinned (OpenSpec.ofChange deviceWritesWrong)

/-- 'ossuarylaw09.DeviceKeeps': WHATEVER THE INPUT: true; the input reads as it did. -/
def deviceKeepsSpec : ChangeSpec := { name := "deviceKeeps", fn := fun _ => fun
  | [d1, d2] => { results := [.lit (.bool true)], args := [d1, d2] }
  | _ => none }
def deviceKeepsRow : OpenClaim := { program := "ytehidhcpdiameaa", sum := "e6121d6db5b721137924e3e3ece1c95a40a9d96a5b2b8153df2371a1a9f87381", func := "ossuary/ossuarylaw09.DeviceKeeps", spec := "deviceKeeps", inPlace := ["internal/abi.NoEscape", "internal/bytealg.MakeNoZero"], unfollowed := true, recurses := true, apart := false }
def DeviceKeepsSaid : Prop := deviceKeepsRow.holds Try.pinned (OpenSpec.ofChange deviceKeepsSpec)

/-- ITS FALSE NEIGHBOUR: 'it returns false'. Refute it at one input. -/
def deviceKeepsWrong : ChangeSpec := { name := "deviceKeeps", fn := fun _ => fun
  | [d1, d2] => { results := [.lit (.bool false)], args := [d1, d2] }
  | _ => none }
def DeviceKeepsWrongFalsely : Prop := deviceKeepsRow.holds Try.pinned (OpenSpec.ofChange deviceKeepsWrong)

/-- 'ossuarylaw09.DeviceApart': WHATEVER THE INPUT: true; the input reads as it did. -/
def deviceApartSpec : ChangeSpec := { name := "deviceApart", fn := fun _ => fun
  | [d1, d2, d3] => { results := [.lit (.bool true)], args := [d1, d2, d3] }
  | _ => none }
def deviceApartRow : OpenClaim := { program := "ytehidhcpdiameaa", sum := "e6121d6db5b721137924e3e3ece1c95a40a9d96a5b2b8153df2371a1a9f87381", func := "ossuary/ossuarylaw09.DeviceApart", spec := "deviceApart", inPlace := ["internal/abi.NoEscape", "internal/bytealg.MakeNoZero"], unfollowed := true, recurses := true, apart := false }
def DeviceApartSaid : Prop := deviceApartRow.holds Try.pinned (OpenSpec.ofChange deviceApartSpec)

/-- ITS FALSE NEIGHBOUR: 'it returns false'. Refute it at one input. -/
def deviceApartWrong : ChangeSpec := { name := "deviceApart", fn := fun _ => fun
  | [d1, d2, d3] => { results := [.lit (.bool false)], args := [d1, d2, d3] }
  | _ => none }
def DeviceApartWrongFalsely : Prop := deviceApartRow.holds Try.pinned (OpenSpec.ofChange deviceApartWrong)

/-- 'ossuarylaw12.SuperTells': WHATEVER THE INPUT: true; the input reads as it did. -/
def superTellsSpec : ChangeSpec := { name := "superTells", fn := fun _ => fun
  | [d1, d2, d3] => { results := [.lit (.bool true)], args := [d1, d2, d3] }
  | _ => none }
def superTellsRow : OpenClaim := { program := "ytehidhcpdiameaa", sum := "e6121d6db5b721137924e3e3ece1c95a40a9d96a5b2b8153df2371a1a9f87381", func := "ossuary/ossuarylaw12.SuperTells", spec := "superTells", inPlace := ["internal/abi.NoEscape", "internal/bytealg.MakeNoZero"], apart := false }
def SuperTellsSaid : Prop := superTellsRow.holds Try.pinned (OpenSpec.ofChange superTellsSpec)

/-- ITS FALSE NEIGHBOUR: 'it returns false'. Refute it at one input. -/
def superTellsWrong : ChangeSpec := { name := "superTells", fn := fun _ => fun
  | [d1, d2, d3] => { results := [.lit (.bool false)], args := [d1, d2, d3] }
  | _ => none }
def SuperTellsWrongFalsely : Prop := superTellsRow.holds Try.pinned (OpenSpec.ofChange superTellsWrong)

/-- 'ossuarylaw12.SuperBack': WHATEVER THE INPUT: true; the input reads as it did. -/
def superBackSpec : ChangeSpec := { name := "superBack", fn := fun _ => fun
  | [d1, d2, d3] => { results := [.lit (.bool true)], args := [d1, d2, d3] }
  | _ => none }
def superBackRow : OpenClaim := { program := "ytehidhcpdiameaa", sum := "e6121d6db5b721137924e3e3ece1c95a40a9d96a5b2b8153df2371a1a9f87381", func := "ossuary/ossuarylaw12.SuperBack", spec := "superBack", inPlace := ["internal/abi.NoEscape", "internal/bytealg.MakeNoZero"], apart := false }
def SuperBackSaid : Prop := superBackRow.holds Try.pinned (OpenSpec.ofChange superBackSpec)

/-- ITS FALSE NEIGHBOUR: 'it returns false'. Refute it at one input. -/
def superBackWrong : ChangeSpec := { name := "superBack", fn := fun _ => fun
  | [d1, d2, d3] => { results := [.lit (.bool false)], args := [d1, d2, d3] }
  | _ => none }
def SuperBackWrongFalsely : Prop := superBackRow.holds Try.pinned (OpenSpec.ofChange superBackWrong)

/-- 'ossuarylaw12.SuperTurns': WHATEVER THE INPUT: true; the input reads as it did. -/
def superTurnsSpec : ChangeSpec := { name := "superTurns", fn := fun _ => fun
  | [d] => { results := [.lit (.bool true)], args := [d] }
  | _ => none }
def superTurnsRow : OpenClaim := { program := "ytehidhcpdiameaa", sum := "e6121d6db5b721137924e3e3ece1c95a40a9d96a5b2b8153df2371a1a9f87381", func := "ossuary/ossuarylaw12.SuperTurns", spec := "superTurns", inPlace := ["internal/abi.NoEscape", "internal/bytealg.MakeNoZero"], apart := false }
def SuperTurnsSaid : Prop := superTurnsRow.holds Try.pinned (OpenSpec.ofChange superTurnsSpec)

/-- ITS FALSE NEIGHBOUR: 'it returns false'. Refute it at one input. -/
def superTurnsWrong : ChangeSpec := { name := "superTurns", fn := fun _ => fun
  | [d] => { results := [.lit (.bool false)], args := [d] }
  | _ => none }
def SuperTurnsWrongFalsely : Prop := superTurnsRow.holds Try.pinned (OpenSpec.ofChange superTurnsWrong)

/-- 'ossuarylaw12.SuperGreater': WHATEVER THE INPUT: true; the input reads as it did. -/
def superGreaterSpec : ChangeSpec := { name := "superGreater", fn := fun _ => fun
  | [d1, d2] => { results := [.lit (.bool true)], args := [d1, d2] }
  | _ => none }
def superGreaterRow : OpenClaim := { program := "ytehidhcpdiameaa", sum := "e6121d6db5b721137924e3e3ece1c95a40a9d96a5b2b8153df2371a1a9f87381", func := "ossuary/ossuarylaw12.SuperGreater", spec := "superGreater", inPlace := ["internal/abi.NoEscape", "internal/bytealg.MakeNoZero"], apart := false }
def SuperGreaterSaid : Prop := superGreaterRow.holds Try.pinned (OpenSpec.ofChange superGreaterSpec)

/-- ITS FALSE NEIGHBOUR: 'it returns false'. Refute it at one input. -/
def superGreaterWrong : ChangeSpec := { name := "superGreater", fn := fun _ => fun
  | [d1, d2] => { results := [.lit (.bool false)], args := [d1, d2] }
  | _ => none }
def SuperGreaterWrongFalsely : Prop := superGreaterRow.holds Try.pinned (OpenSpec.ofChange superGreaterWrong)

/-- 'ossuarylaw12.SuperBroken': WHATEVER THE INPUT: true; the input reads as it did. -/
def superBrokenSpec : ChangeSpec := { name := "superBroken", fn := fun _ => fun
  | [d1, d2, d3] => { results := [.lit (.bool true)], args := [d1, d2, d3] }
  | _ => none }
def superBrokenRow : OpenClaim := { program := "ytehidhcpdiameaa", sum := "e6121d6db5b721137924e3e3ece1c95a40a9d96a5b2b8153df2371a1a9f87381", func := "ossuary/ossuarylaw12.SuperBroken", spec := "superBroken", inPlace := ["internal/abi.NoEscape", "internal/bytealg.MakeNoZero"], apart := false }
def SuperBrokenSaid : Prop := superBrokenRow.holds Try.pinned (OpenSpec.ofChange superBrokenSpec)

/-- ITS FALSE NEIGHBOUR: 'it returns false'. Refute it at one input. -/
def superBrokenWrong : ChangeSpec := { name := "superBroken", fn := fun _ => fun
  | [d1, d2, d3] => { results := [.lit (.bool false)], args := [d1, d2, d3] }
  | _ => none }
def SuperBrokenWrongFalsely : Prop := superBrokenRow.holds Try.pinned (OpenSpec.ofChange superBrokenWrong)

/- THE SECOND FORM. 'bulk': how many values and letters a reading holds, each counted each time it is reached (what is shared counts as often as it is met; a slice's spare places count too). A statement '..UptoSaid' is the law's where the arguments, and the package variables that the reading takes, are together of bulk at most 1048576: NARROWER than '..Said'. Prove '..Said' where nothing that the law and all that it calls make is longer than what came in: it says more and counts as full. Else prove '..UptoSaid'. A law counts once. -/
mutual
def uptoBulk {H : Type} : DataW H → Nat
  | .lit (.string bytes) => bytes.length + 1
  | .lit _ => 1
  | .nil => 1
  | .ptr d => uptoBulk d + 1
  | .slice elems spare => uptoBulkAll elems + uptoBulkAll spare + 1
  | .agg parts => uptoBulkAll parts + 1
  | .iface _ d => uptoBulk d + 1
  | .map entries => uptoBulkEntries entries + 1
  | .held _ => 1
def uptoBulkAll {H : Type} : List (DataW H) → Nat
  | [] => 0
  | d :: r => uptoBulk d + uptoBulkAll r
def uptoBulkEntries {H : Type} : List (Lit × DataW H) → Nat
  | [] => 0
  | x :: r => uptoBulkEntry x + uptoBulkEntries r
def uptoBulkEntry {H : Type} : Lit × DataW H → Nat
  | (.string bytes, d) => bytes.length + uptoBulk d + 1
  | (_, d) => uptoBulk d + 1
 end
def uptoSmall : (H : Type) → List (DataW H) → Bool := fun _ ds => decide (uptoBulkAll ds ≤ 1048576)
def OpenSpec.upto (s : _root_.Go.ChangeSpec) : _root_.Go.OpenSpec := { _root_.Go.OpenSpec.ofChange s with cond := some uptoSmall }

/-- 'ossuarylaw02.CrcSums', WHERE WHAT IT READS IS OF BULK AT MOST 1048576: true; the input reads as it did. -/
def crcSumsUptoRow : OpenClaim := { program := "ytehidhcpdiameaa", sum := "e6121d6db5b721137924e3e3ece1c95a40a9d96a5b2b8153df2371a1a9f87381", func := "ossuary/ossuarylaw02.CrcSums", spec := "crcSums", apart := false, narrowed := true }
def CrcSumsUptoSaid : Prop := crcSumsUptoRow.holds Try.pinned (OpenSpec.upto crcSumsSpec)

/-- 'ossuarylaw02.CrcTells', WHERE WHAT IT READS IS OF BULK AT MOST 1048576: true; the input reads as it did. -/
def crcTellsUptoRow : OpenClaim := { program := "ytehidhcpdiameaa", sum := "e6121d6db5b721137924e3e3ece1c95a40a9d96a5b2b8153df2371a1a9f87381", func := "ossuary/ossuarylaw02.CrcTells", spec := "crcTells", apart := false, narrowed := true }
def CrcTellsUptoSaid : Prop := crcTellsUptoRow.holds Try.pinned (OpenSpec.upto crcTellsSpec)

/-- 'ossuarylaw02.CrcMixed', WHERE WHAT IT READS IS OF BULK AT MOST 1048576: true; the input reads as it did. -/
def crcMixedUptoRow : OpenClaim := { program := "ytehidhcpdiameaa", sum := "e6121d6db5b721137924e3e3ece1c95a40a9d96a5b2b8153df2371a1a9f87381", func := "ossuary/ossuarylaw02.CrcMixed", spec := "crcMixed", apart := false, narrowed := true }
def CrcMixedUptoSaid : Prop := crcMixedUptoRow.holds Try.pinned (OpenSpec.upto crcMixedSpec)

/-- 'ossuarylaw02.CrcBack', WHERE WHAT IT READS IS OF BULK AT MOST 1048576: true; the input reads as it did. -/
def crcBackUptoRow : OpenClaim := { program := "ytehidhcpdiameaa", sum := "e6121d6db5b721137924e3e3ece1c95a40a9d96a5b2b8153df2371a1a9f87381", func := "ossuary/ossuarylaw02.CrcBack", spec := "crcBack", apart := false, narrowed := true }
def CrcBackUptoSaid : Prop := crcBackUptoRow.holds Try.pinned (OpenSpec.upto crcBackSpec)

/-- 'ossuarylaw02.CrcLonger', WHERE WHAT IT READS IS OF BULK AT MOST 1048576: true; the input reads as it did. -/
def crcLongerUptoRow : OpenClaim := { program := "ytehidhcpdiameaa", sum := "e6121d6db5b721137924e3e3ece1c95a40a9d96a5b2b8153df2371a1a9f87381", func := "ossuary/ossuarylaw02.CrcLonger", spec := "crcLonger", apart := false, narrowed := true }
def CrcLongerUptoSaid : Prop := crcLongerUptoRow.holds Try.pinned (OpenSpec.upto crcLongerSpec)

/-- 'ossuarylaw10.WireTells', WHERE WHAT IT READS IS OF BULK AT MOST 1048576: true; the input reads as it did. -/
def wireTellsUptoRow : OpenClaim := { program := "ytehidhcpdiameaa", sum := "e6121d6db5b721137924e3e3ece1c95a40a9d96a5b2b8153df2371a1a9f87381", func := "ossuary/ossuarylaw10.WireTells", spec := "wireTells", inPlace := ["internal/abi.NoEscape"], apart := false, narrowed := true }
def WireTellsUptoSaid : Prop := wireTellsUptoRow.holds Try.pinned (OpenSpec.upto wireTellsSpec)

/-- 'ossuarylaw10.WireBack', WHERE WHAT IT READS IS OF BULK AT MOST 1048576: true; the input reads as it did. -/
def wireBackUptoRow : OpenClaim := { program := "ytehidhcpdiameaa", sum := "e6121d6db5b721137924e3e3ece1c95a40a9d96a5b2b8153df2371a1a9f87381", func := "ossuary/ossuarylaw10.WireBack", spec := "wireBack", inPlace := ["internal/abi.NoEscape"], apart := false, narrowed := true }
def WireBackUptoSaid : Prop := wireBackUptoRow.holds Try.pinned (OpenSpec.upto wireBackSpec)

/-- 'ossuarylaw10.WireOnce', WHERE WHAT IT READS IS OF BULK AT MOST 1048576: true; the input reads as it did. -/
def wireOnceUptoRow : OpenClaim := { program := "ytehidhcpdiameaa", sum := "e6121d6db5b721137924e3e3ece1c95a40a9d96a5b2b8153df2371a1a9f87381", func := "ossuary/ossuarylaw10.WireOnce", spec := "wireOnce", inPlace := ["internal/abi.NoEscape"], apart := false, narrowed := true }
def WireOnceUptoSaid : Prop := wireOnceUptoRow.holds Try.pinned (OpenSpec.upto wireOnceSpec)

/-- 'ossuarylaw10.WireShort', WHERE WHAT IT READS IS OF BULK AT MOST 1048576: true; the input reads as it did. -/
def wireShortUptoRow : OpenClaim := { program := "ytehidhcpdiameaa", sum := "e6121d6db5b721137924e3e3ece1c95a40a9d96a5b2b8153df2371a1a9f87381", func := "ossuary/ossuarylaw10.WireShort", spec := "wireShort", inPlace := ["internal/abi.NoEscape"], apart := false, narrowed := true }
def WireShortUptoSaid : Prop := wireShortUptoRow.holds Try.pinned (OpenSpec.upto wireShortSpec)

/-- 'ossuarylaw10.WireLists', WHERE WHAT IT READS IS OF BULK AT MOST 1048576: true; the input reads as it did. -/
def wireListsUptoRow : OpenClaim := { program := "ytehidhcpdiameaa", sum := "e6121d6db5b721137924e3e3ece1c95a40a9d96a5b2b8153df2371a1a9f87381", func := "ossuary/ossuarylaw10.WireLists", spec := "wireLists", inPlace := ["internal/abi.NoEscape"], apart := false, narrowed := true }
def WireListsUptoSaid : Prop := wireListsUptoRow.holds Try.pinned (OpenSpec.upto wireListsSpec)

/-- 'ossuarylaw11.PageTells', WHERE WHAT IT READS IS OF BULK AT MOST 1048576: true; the input reads as it did. -/
def pageTellsUptoRow : OpenClaim := { program := "ytehidhcpdiameaa", sum := "e6121d6db5b721137924e3e3ece1c95a40a9d96a5b2b8153df2371a1a9f87381", func := "ossuary/ossuarylaw11.PageTells", spec := "pageTells", inPlace := ["internal/abi.NoEscape", "internal/bytealg.MakeNoZero"], apart := false, narrowed := true }
def PageTellsUptoSaid : Prop := pageTellsUptoRow.holds Try.pinned (OpenSpec.upto pageTellsSpec)

/-- 'ossuarylaw11.PageBack', WHERE WHAT IT READS IS OF BULK AT MOST 1048576: true; the input reads as it did. -/
def pageBackUptoRow : OpenClaim := { program := "ytehidhcpdiameaa", sum := "e6121d6db5b721137924e3e3ece1c95a40a9d96a5b2b8153df2371a1a9f87381", func := "ossuary/ossuarylaw11.PageBack", spec := "pageBack", inPlace := ["internal/abi.NoEscape", "internal/bytealg.MakeNoZero"], apart := false, narrowed := true }
def PageBackUptoSaid : Prop := pageBackUptoRow.holds Try.pinned (OpenSpec.upto pageBackSpec)

/-- 'ossuarylaw11.PageOnce', WHERE WHAT IT READS IS OF BULK AT MOST 1048576: true; the input reads as it did. -/
def pageOnceUptoRow : OpenClaim := { program := "ytehidhcpdiameaa", sum := "e6121d6db5b721137924e3e3ece1c95a40a9d96a5b2b8153df2371a1a9f87381", func := "ossuary/ossuarylaw11.PageOnce", spec := "pageOnce", inPlace := ["internal/abi.NoEscape", "internal/bytealg.MakeNoZero"], apart := false, narrowed := true }
def PageOnceUptoSaid : Prop := pageOnceUptoRow.holds Try.pinned (OpenSpec.upto pageOnceSpec)

/-- 'ossuarylaw11.PageTorn', WHERE WHAT IT READS IS OF BULK AT MOST 1048576: true; the input reads as it did. -/
def pageTornUptoRow : OpenClaim := { program := "ytehidhcpdiameaa", sum := "e6121d6db5b721137924e3e3ece1c95a40a9d96a5b2b8153df2371a1a9f87381", func := "ossuary/ossuarylaw11.PageTorn", spec := "pageTorn", inPlace := ["internal/abi.NoEscape", "internal/bytealg.MakeNoZero"], apart := false, narrowed := true }
def PageTornUptoSaid : Prop := pageTornUptoRow.holds Try.pinned (OpenSpec.upto pageTornSpec)

/-- 'ossuarylaw11.PageNeed', WHERE WHAT IT READS IS OF BULK AT MOST 1048576: true; the input reads as it did. -/
def pageNeedUptoRow : OpenClaim := { program := "ytehidhcpdiameaa", sum := "e6121d6db5b721137924e3e3ece1c95a40a9d96a5b2b8153df2371a1a9f87381", func := "ossuary/ossuarylaw11.PageNeed", spec := "pageNeed", inPlace := ["internal/abi.NoEscape", "internal/bytealg.MakeNoZero"], apart := false, narrowed := true }
def PageNeedUptoSaid : Prop := pageNeedUptoRow.holds Try.pinned (OpenSpec.upto pageNeedSpec)

/-- 'ossuarylaw09.DeviceFuse', WHERE WHAT IT READS IS OF BULK AT MOST 1048576: true; the input reads as it did. -/
def deviceFuseUptoRow : OpenClaim := { program := "ytehidhcpdiameaa", sum := "e6121d6db5b721137924e3e3ece1c95a40a9d96a5b2b8153df2371a1a9f87381", func := "ossuary/ossuarylaw09.DeviceFuse", spec := "deviceFuse", inPlace := ["internal/abi.NoEscape", "internal/bytealg.MakeNoZero"], unfollowed := true, recurses := true, apart := false, narrowed := true }
def DeviceFuseUptoSaid : Prop := deviceFuseUptoRow.holds Try.pinned (OpenSpec.upto deviceFuseSpec)

/-- 'ossuarylaw09.DeviceTells', WHERE WHAT IT READS IS OF BULK AT MOST 1048576: true; the input reads as it did. -/
def deviceTellsUptoRow : OpenClaim := { program := "ytehidhcpdiameaa", sum := "e6121d6db5b721137924e3e3ece1c95a40a9d96a5b2b8153df2371a1a9f87381", func := "ossuary/ossuarylaw09.DeviceTells", spec := "deviceTells", inPlace := ["internal/abi.NoEscape", "internal/bytealg.MakeNoZero"], unfollowed := true, recurses := true, apart := false, narrowed := true }
def DeviceTellsUptoSaid : Prop := deviceTellsUptoRow.holds Try.pinned (OpenSpec.upto deviceTellsSpec)

/-- 'ossuarylaw09.DeviceWrites', WHERE WHAT IT READS IS OF BULK AT MOST 1048576: true; the input reads as it did. -/
def deviceWritesUptoRow : OpenClaim := { program := "ytehidhcpdiameaa", sum := "e6121d6db5b721137924e3e3ece1c95a40a9d96a5b2b8153df2371a1a9f87381", func := "ossuary/ossuarylaw09.DeviceWrites", spec := "deviceWrites", inPlace := ["internal/abi.NoEscape", "internal/bytealg.MakeNoZero"], unfollowed := true, recurses := true, apart := false, narrowed := true }
def DeviceWritesUptoSaid : Prop := deviceWritesUptoRow.holds Try.pinned (OpenSpec.upto deviceWritesSpec)

/-- 'ossuarylaw09.DeviceKeeps', WHERE WHAT IT READS IS OF BULK AT MOST 1048576: true; the input reads as it did. -/
def deviceKeepsUptoRow : OpenClaim := { program := "ytehidhcpdiameaa", sum := "e6121d6db5b721137924e3e3ece1c95a40a9d96a5b2b8153df2371a1a9f87381", func := "ossuary/ossuarylaw09.DeviceKeeps", spec := "deviceKeeps", inPlace := ["internal/abi.NoEscape", "internal/bytealg.MakeNoZero"], unfollowed := true, recurses := true, apart := false, narrowed := true }
def DeviceKeepsUptoSaid : Prop := deviceKeepsUptoRow.holds Try.pinned (OpenSpec.upto deviceKeepsSpec)

/-- 'ossuarylaw09.DeviceApart', WHERE WHAT IT READS IS OF BULK AT MOST 1048576: true; the input reads as it did. -/
def deviceApartUptoRow : OpenClaim := { program := "ytehidhcpdiameaa", sum := "e6121d6db5b721137924e3e3ece1c95a40a9d96a5b2b8153df2371a1a9f87381", func := "ossuary/ossuarylaw09.DeviceApart", spec := "deviceApart", inPlace := ["internal/abi.NoEscape", "internal/bytealg.MakeNoZero"], unfollowed := true, recurses := true, apart := false, narrowed := true }
def DeviceApartUptoSaid : Prop := deviceApartUptoRow.holds Try.pinned (OpenSpec.upto deviceApartSpec)

/-- 'ossuarylaw12.SuperTells', WHERE WHAT IT READS IS OF BULK AT MOST 1048576: true; the input reads as it did. -/
def superTellsUptoRow : OpenClaim := { program := "ytehidhcpdiameaa", sum := "e6121d6db5b721137924e3e3ece1c95a40a9d96a5b2b8153df2371a1a9f87381", func := "ossuary/ossuarylaw12.SuperTells", spec := "superTells", inPlace := ["internal/abi.NoEscape", "internal/bytealg.MakeNoZero"], apart := false, narrowed := true }
def SuperTellsUptoSaid : Prop := superTellsUptoRow.holds Try.pinned (OpenSpec.upto superTellsSpec)

/-- 'ossuarylaw12.SuperBack', WHERE WHAT IT READS IS OF BULK AT MOST 1048576: true; the input reads as it did. -/
def superBackUptoRow : OpenClaim := { program := "ytehidhcpdiameaa", sum := "e6121d6db5b721137924e3e3ece1c95a40a9d96a5b2b8153df2371a1a9f87381", func := "ossuary/ossuarylaw12.SuperBack", spec := "superBack", inPlace := ["internal/abi.NoEscape", "internal/bytealg.MakeNoZero"], apart := false, narrowed := true }
def SuperBackUptoSaid : Prop := superBackUptoRow.holds Try.pinned (OpenSpec.upto superBackSpec)

/-- 'ossuarylaw12.SuperTurns', WHERE WHAT IT READS IS OF BULK AT MOST 1048576: true; the input reads as it did. -/
def superTurnsUptoRow : OpenClaim := { program := "ytehidhcpdiameaa", sum := "e6121d6db5b721137924e3e3ece1c95a40a9d96a5b2b8153df2371a1a9f87381", func := "ossuary/ossuarylaw12.SuperTurns", spec := "superTurns", inPlace := ["internal/abi.NoEscape", "internal/bytealg.MakeNoZero"], apart := false, narrowed := true }
def SuperTurnsUptoSaid : Prop := superTurnsUptoRow.holds Try.pinned (OpenSpec.upto superTurnsSpec)

/-- 'ossuarylaw12.SuperGreater', WHERE WHAT IT READS IS OF BULK AT MOST 1048576: true; the input reads as it did. -/
def superGreaterUptoRow : OpenClaim := { program := "ytehidhcpdiameaa", sum := "e6121d6db5b721137924e3e3ece1c95a40a9d96a5b2b8153df2371a1a9f87381", func := "ossuary/ossuarylaw12.SuperGreater", spec := "superGreater", inPlace := ["internal/abi.NoEscape", "internal/bytealg.MakeNoZero"], apart := false, narrowed := true }
def SuperGreaterUptoSaid : Prop := superGreaterUptoRow.holds Try.pinned (OpenSpec.upto superGreaterSpec)

/-- 'ossuarylaw12.SuperBroken', WHERE WHAT IT READS IS OF BULK AT MOST 1048576: true; the input reads as it did. -/
def superBrokenUptoRow : OpenClaim := { program := "ytehidhcpdiameaa", sum := "e6121d6db5b721137924e3e3ece1c95a40a9d96a5b2b8153df2371a1a9f87381", func := "ossuary/ossuarylaw12.SuperBroken", spec := "superBroken", inPlace := ["internal/abi.NoEscape", "internal/bytealg.MakeNoZero"], apart := false, narrowed := true }
def SuperBrokenUptoSaid : Prop := superBrokenUptoRow.holds Try.pinned (OpenSpec.upto superBrokenSpec)

end Rows
end Go.Proofs.Ytehidhcpdiameaa
