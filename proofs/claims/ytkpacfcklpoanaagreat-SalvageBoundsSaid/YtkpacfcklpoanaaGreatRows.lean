/-
  No cell of these rows narrows 'for every input' (looked for: loops, veiled, ifaces, maps, wideKeys, modest, calm, conditions, laid).
  DERIVED. THE GIVEN ROWS OF THIS SEAT. 25 by the template 'for every input the law returns true; each argument reads behind the call as it read before'; 0 by the template 'total and deterministic' (their statements: YtkpacfcklpoanaaGreatTotals.lean).
  GIVEN WITH THE SEED: the statements are not yours to turn. If you find one false, say at which input.
  Laid BY PROGRAM, IN A SANDBOX (cutbox-rows.mjs): the forced cells as the released guide's own fill.sh prints them over the translation d2d4fa16e78b824c… (all of the seat's roots in one cut). By AI agents, Wed Nov 11 2026. No macro, syntax, notation, axiom, sorry.
-/
import Derived.Test.YtkpacfcklpoanaaGreatChecked
import GoSem.Claim
import GoSem.ClaimJoined
import GoSem.ClaimMapViews
import Derived.JoinedTies
import Derived.KernelRfl
namespace Go.Proofs.YtkpacfcklpoanaaGreat
/- THE CELL 'sum', in the pinned program and in every row, IS THE sha256 OF THE DUMP (.gsa) THAT YtkpacfcklpoanaaGreatProg.lean LOADS. Nothing in Lean hashes anything: it is a label: what it is worth is what the hold of that sum in a sandbox is worth. -/
noncomputable def Tryz.pinned : Pinned := { name := "ytkpacfcklpoanaagreat", sum := "d2d4fa16e78b824c544837631df2e0d70ff4dc5a2fec88c689f50efd12c671d2", checked := Tryz.checked }
namespace Rows
def none {H : Type} : Left H := { results := [], args := [] }

/-- 'fasciclelaw23.SalvageBounds': WHATEVER THE INPUT: true; the input reads as it did. -/
def salvageBoundsSpec : ChangeSpec := { name := "salvageBounds", fn := fun _ => fun
  | [d1, d2] => { results := [.lit (.bool true)], args := [d1, d2] }
  | _ => none }
def salvageBoundsRow : OpenClaim := { program := "ytkpacfcklpoanaagreat", sum := "d2d4fa16e78b824c544837631df2e0d70ff4dc5a2fec88c689f50efd12c671d2", func := "fascicle/fasciclelaw23.SalvageBounds", spec := "salvageBounds", inPlace := ["internal/bytealg.IndexByte", "internal/bytealg.MakeNoZero"], unfollowed := true, recurses := true, apart := false }
def SalvageBoundsSaid : Prop := salvageBoundsRow.holds Tryz.pinned (OpenSpec.ofChange salvageBoundsSpec)

/-- ITS FALSE NEIGHBOUR: 'it returns false'. Refute it at one input. -/
def salvageBoundsWrong : ChangeSpec := { name := "salvageBounds", fn := fun _ => fun
  | [d1, d2] => { results := [.lit (.bool false)], args := [d1, d2] }
  | _ => none }
def SalvageBoundsWrongFalsely : Prop := salvageBoundsRow.holds Tryz.pinned (OpenSpec.ofChange salvageBoundsWrong)

/-- 'fasciclelaw23.SalvageParts': WHATEVER THE INPUT: true; the input reads as it did. -/
def salvagePartsSpec : ChangeSpec := { name := "salvageParts", fn := fun _ => fun
  | [d1, d2] => { results := [.lit (.bool true)], args := [d1, d2] }
  | _ => none }
def salvagePartsRow : OpenClaim := { program := "ytkpacfcklpoanaagreat", sum := "d2d4fa16e78b824c544837631df2e0d70ff4dc5a2fec88c689f50efd12c671d2", func := "fascicle/fasciclelaw23.SalvageParts", spec := "salvageParts", inPlace := ["internal/bytealg.IndexByte", "internal/bytealg.MakeNoZero"], unfollowed := true, recurses := true, apart := false }
def SalvagePartsSaid : Prop := salvagePartsRow.holds Tryz.pinned (OpenSpec.ofChange salvagePartsSpec)

/-- ITS FALSE NEIGHBOUR: 'it returns false'. Refute it at one input. -/
def salvagePartsWrong : ChangeSpec := { name := "salvageParts", fn := fun _ => fun
  | [d1, d2] => { results := [.lit (.bool false)], args := [d1, d2] }
  | _ => none }
def SalvagePartsWrongFalsely : Prop := salvagePartsRow.holds Tryz.pinned (OpenSpec.ofChange salvagePartsWrong)

/-- 'fasciclelaw23.SalvageAny': WHATEVER THE INPUT: true; the input reads as it did. -/
def salvageAnySpec : ChangeSpec := { name := "salvageAny", fn := fun _ => fun
  | [d1, d2] => { results := [.lit (.bool true)], args := [d1, d2] }
  | _ => none }
def salvageAnyRow : OpenClaim := { program := "ytkpacfcklpoanaagreat", sum := "d2d4fa16e78b824c544837631df2e0d70ff4dc5a2fec88c689f50efd12c671d2", func := "fascicle/fasciclelaw23.SalvageAny", spec := "salvageAny", inPlace := ["internal/bytealg.IndexByte", "internal/bytealg.MakeNoZero"], unfollowed := true, recurses := true, apart := false }
def SalvageAnySaid : Prop := salvageAnyRow.holds Tryz.pinned (OpenSpec.ofChange salvageAnySpec)

/-- ITS FALSE NEIGHBOUR: 'it returns false'. Refute it at one input. -/
def salvageAnyWrong : ChangeSpec := { name := "salvageAny", fn := fun _ => fun
  | [d1, d2] => { results := [.lit (.bool false)], args := [d1, d2] }
  | _ => none }
def SalvageAnyWrongFalsely : Prop := salvageAnyRow.holds Tryz.pinned (OpenSpec.ofChange salvageAnyWrong)

/-- 'fasciclelaw23.SalvageImage': WHATEVER THE INPUT: true; the input reads as it did. -/
def salvageImageSpec : ChangeSpec := { name := "salvageImage", fn := fun _ => fun
  | [d1, d2] => { results := [.lit (.bool true)], args := [d1, d2] }
  | _ => none }
def salvageImageRow : OpenClaim := { program := "ytkpacfcklpoanaagreat", sum := "d2d4fa16e78b824c544837631df2e0d70ff4dc5a2fec88c689f50efd12c671d2", func := "fascicle/fasciclelaw23.SalvageImage", spec := "salvageImage", inPlace := ["internal/bytealg.IndexByte", "internal/bytealg.MakeNoZero"], unfollowed := true, recurses := true, apart := false }
def SalvageImageSaid : Prop := salvageImageRow.holds Tryz.pinned (OpenSpec.ofChange salvageImageSpec)

/-- ITS FALSE NEIGHBOUR: 'it returns false'. Refute it at one input. -/
def salvageImageWrong : ChangeSpec := { name := "salvageImage", fn := fun _ => fun
  | [d1, d2] => { results := [.lit (.bool false)], args := [d1, d2] }
  | _ => none }
def SalvageImageWrongFalsely : Prop := salvageImageRow.holds Tryz.pinned (OpenSpec.ofChange salvageImageWrong)

/-- 'fasciclelaw24.DamageApplies': WHATEVER THE INPUT: true; the input reads as it did. -/
def damageAppliesSpec : ChangeSpec := { name := "damageApplies", fn := fun _ => fun
  | [d1, d2, d3, d4] => { results := [.lit (.bool true)], args := [d1, d2, d3, d4] }
  | _ => none }
def damageAppliesRow : OpenClaim := { program := "ytkpacfcklpoanaagreat", sum := "d2d4fa16e78b824c544837631df2e0d70ff4dc5a2fec88c689f50efd12c671d2", func := "fascicle/fasciclelaw24.DamageApplies", spec := "damageApplies", inPlace := ["internal/bytealg.IndexByte", "internal/bytealg.MakeNoZero"], unfollowed := true, recurses := true, apart := false }
def DamageAppliesSaid : Prop := damageAppliesRow.holds Tryz.pinned (OpenSpec.ofChange damageAppliesSpec)

/-- ITS FALSE NEIGHBOUR: 'it returns false'. Refute it at one input. -/
def damageAppliesWrong : ChangeSpec := { name := "damageApplies", fn := fun _ => fun
  | [d1, d2, d3, d4] => { results := [.lit (.bool false)], args := [d1, d2, d3, d4] }
  | _ => none }
def DamageAppliesWrongFalsely : Prop := damageAppliesRow.holds Tryz.pinned (OpenSpec.ofChange damageAppliesWrong)

/-- 'fasciclelaw24.DamageSublist': WHATEVER THE INPUT: true; the input reads as it did. -/
def damageSublistSpec : ChangeSpec := { name := "damageSublist", fn := fun _ => fun
  | [d1, d2, d3] => { results := [.lit (.bool true)], args := [d1, d2, d3] }
  | _ => none }
def damageSublistRow : OpenClaim := { program := "ytkpacfcklpoanaagreat", sum := "d2d4fa16e78b824c544837631df2e0d70ff4dc5a2fec88c689f50efd12c671d2", func := "fascicle/fasciclelaw24.DamageSublist", spec := "damageSublist", inPlace := ["internal/bytealg.IndexByte", "internal/bytealg.MakeNoZero"], unfollowed := true, recurses := true, apart := false }
def DamageSublistSaid : Prop := damageSublistRow.holds Tryz.pinned (OpenSpec.ofChange damageSublistSpec)

/-- ITS FALSE NEIGHBOUR: 'it returns false'. Refute it at one input. -/
def damageSublistWrong : ChangeSpec := { name := "damageSublist", fn := fun _ => fun
  | [d1, d2, d3] => { results := [.lit (.bool false)], args := [d1, d2, d3] }
  | _ => none }
def DamageSublistWrongFalsely : Prop := damageSublistRow.holds Tryz.pinned (OpenSpec.ofChange damageSublistWrong)

/-- 'fasciclelaw24.DamageOthers': WHATEVER THE INPUT: true; the input reads as it did. -/
def damageOthersSpec : ChangeSpec := { name := "damageOthers", fn := fun _ => fun
  | [d1, d2, d3] => { results := [.lit (.bool true)], args := [d1, d2, d3] }
  | _ => none }
def damageOthersRow : OpenClaim := { program := "ytkpacfcklpoanaagreat", sum := "d2d4fa16e78b824c544837631df2e0d70ff4dc5a2fec88c689f50efd12c671d2", func := "fascicle/fasciclelaw24.DamageOthers", spec := "damageOthers", inPlace := ["internal/bytealg.IndexByte", "internal/bytealg.MakeNoZero"], unfollowed := true, recurses := true, apart := false }
def DamageOthersSaid : Prop := damageOthersRow.holds Tryz.pinned (OpenSpec.ofChange damageOthersSpec)

/-- ITS FALSE NEIGHBOUR: 'it returns false'. Refute it at one input. -/
def damageOthersWrong : ChangeSpec := { name := "damageOthers", fn := fun _ => fun
  | [d1, d2, d3] => { results := [.lit (.bool false)], args := [d1, d2, d3] }
  | _ => none }
def DamageOthersWrongFalsely : Prop := damageOthersRow.holds Tryz.pinned (OpenSpec.ofChange damageOthersWrong)

/-- 'fascicletop.TopCrash': WHATEVER THE INPUT: true; the input reads as it did. -/
def topCrashSpec : ChangeSpec := { name := "topCrash", fn := fun _ => fun
  | [d1, d2, d3] => { results := [.lit (.bool true)], args := [d1, d2, d3] }
  | _ => none }
def topCrashRow : OpenClaim := { program := "ytkpacfcklpoanaagreat", sum := "d2d4fa16e78b824c544837631df2e0d70ff4dc5a2fec88c689f50efd12c671d2", func := "fascicle/fascicletop.TopCrash", spec := "topCrash", inPlace := ["internal/bytealg.IndexByte", "internal/bytealg.MakeNoZero", "internal/abi.NoEscape"], unfollowed := true, recurses := true, apart := false }
def TopCrashSaid : Prop := topCrashRow.holds Tryz.pinned (OpenSpec.ofChange topCrashSpec)

/-- ITS FALSE NEIGHBOUR: 'it returns false'. Refute it at one input. -/
def topCrashWrong : ChangeSpec := { name := "topCrash", fn := fun _ => fun
  | [d1, d2, d3] => { results := [.lit (.bool false)], args := [d1, d2, d3] }
  | _ => none }
def TopCrashWrongFalsely : Prop := topCrashRow.holds Tryz.pinned (OpenSpec.ofChange topCrashWrong)

/-- 'fasciclelaw24.DamageErrors': WHATEVER THE INPUT: true; the input reads as it did. -/
def damageErrorsSpec : ChangeSpec := { name := "damageErrors", fn := fun _ => fun
  | [d1, d2] => { results := [.lit (.bool true)], args := [d1, d2] }
  | _ => none }
def damageErrorsRow : OpenClaim := { program := "ytkpacfcklpoanaagreat", sum := "d2d4fa16e78b824c544837631df2e0d70ff4dc5a2fec88c689f50efd12c671d2", func := "fascicle/fasciclelaw24.DamageErrors", spec := "damageErrors", inPlace := ["internal/bytealg.IndexByte", "internal/bytealg.MakeNoZero"], unfollowed := true, recurses := true, apart := false }
def DamageErrorsSaid : Prop := damageErrorsRow.holds Tryz.pinned (OpenSpec.ofChange damageErrorsSpec)

/-- ITS FALSE NEIGHBOUR: 'it returns false'. Refute it at one input. -/
def damageErrorsWrong : ChangeSpec := { name := "damageErrors", fn := fun _ => fun
  | [d1, d2] => { results := [.lit (.bool false)], args := [d1, d2] }
  | _ => none }
def DamageErrorsWrongFalsely : Prop := damageErrorsRow.holds Tryz.pinned (OpenSpec.ofChange damageErrorsWrong)

/-- 'fasciclelaw24.DamageSure': WHATEVER THE INPUT: true; the input reads as it did. -/
def damageSureSpec : ChangeSpec := { name := "damageSure", fn := fun _ => fun
  | [d1, d2, d3] => { results := [.lit (.bool true)], args := [d1, d2, d3] }
  | _ => none }
def damageSureRow : OpenClaim := { program := "ytkpacfcklpoanaagreat", sum := "d2d4fa16e78b824c544837631df2e0d70ff4dc5a2fec88c689f50efd12c671d2", func := "fascicle/fasciclelaw24.DamageSure", spec := "damageSure", inPlace := ["internal/bytealg.IndexByte", "internal/bytealg.MakeNoZero"], unfollowed := true, recurses := true, apart := false }
def DamageSureSaid : Prop := damageSureRow.holds Tryz.pinned (OpenSpec.ofChange damageSureSpec)

/-- ITS FALSE NEIGHBOUR: 'it returns false'. Refute it at one input. -/
def damageSureWrong : ChangeSpec := { name := "damageSure", fn := fun _ => fun
  | [d1, d2, d3] => { results := [.lit (.bool false)], args := [d1, d2, d3] }
  | _ => none }
def DamageSureWrongFalsely : Prop := damageSureRow.holds Tryz.pinned (OpenSpec.ofChange damageSureWrong)

/-- 'fasciclelaw17.DecodeViews': WHATEVER THE INPUT: true; the input reads as it did. -/
def decodeViewsSpec : ChangeSpec := { name := "decodeViews", fn := fun _ => fun
  | [d1, d2, d3, d4] => { results := [.lit (.bool true)], args := [d1, d2, d3, d4] }
  | _ => none }
def decodeViewsRow : OpenClaim := { program := "ytkpacfcklpoanaagreat", sum := "d2d4fa16e78b824c544837631df2e0d70ff4dc5a2fec88c689f50efd12c671d2", func := "fascicle/fasciclelaw17.DecodeViews", spec := "decodeViews", inPlace := ["internal/bytealg.IndexByte", "internal/bytealg.MakeNoZero"], unfollowed := true, recurses := true, apart := false }
def DecodeViewsSaid : Prop := decodeViewsRow.holds Tryz.pinned (OpenSpec.ofChange decodeViewsSpec)

/-- ITS FALSE NEIGHBOUR: 'it returns false'. Refute it at one input. -/
def decodeViewsWrong : ChangeSpec := { name := "decodeViews", fn := fun _ => fun
  | [d1, d2, d3, d4] => { results := [.lit (.bool false)], args := [d1, d2, d3, d4] }
  | _ => none }
def DecodeViewsWrongFalsely : Prop := decodeViewsRow.holds Tryz.pinned (OpenSpec.ofChange decodeViewsWrong)

/-- 'fasciclelaw17.DecodeBack': WHATEVER THE INPUT: true; the input reads as it did. -/
def decodeBackSpec : ChangeSpec := { name := "decodeBack", fn := fun _ => fun
  | [d1, d2] => { results := [.lit (.bool true)], args := [d1, d2] }
  | _ => none }
def decodeBackRow : OpenClaim := { program := "ytkpacfcklpoanaagreat", sum := "d2d4fa16e78b824c544837631df2e0d70ff4dc5a2fec88c689f50efd12c671d2", func := "fascicle/fasciclelaw17.DecodeBack", spec := "decodeBack", inPlace := ["internal/bytealg.IndexByte", "internal/bytealg.MakeNoZero"], unfollowed := true, recurses := true, apart := false }
def DecodeBackSaid : Prop := decodeBackRow.holds Tryz.pinned (OpenSpec.ofChange decodeBackSpec)

/-- ITS FALSE NEIGHBOUR: 'it returns false'. Refute it at one input. -/
def decodeBackWrong : ChangeSpec := { name := "decodeBack", fn := fun _ => fun
  | [d1, d2] => { results := [.lit (.bool false)], args := [d1, d2] }
  | _ => none }
def DecodeBackWrongFalsely : Prop := decodeBackRow.holds Tryz.pinned (OpenSpec.ofChange decodeBackWrong)

/-- 'fasciclelaw17.DecodeStrict': WHATEVER THE INPUT: true; the input reads as it did. -/
def decodeStrictSpec : ChangeSpec := { name := "decodeStrict", fn := fun _ => fun
  | [d1, d2, d3, d4] => { results := [.lit (.bool true)], args := [d1, d2, d3, d4] }
  | _ => none }
def decodeStrictRow : OpenClaim := { program := "ytkpacfcklpoanaagreat", sum := "d2d4fa16e78b824c544837631df2e0d70ff4dc5a2fec88c689f50efd12c671d2", func := "fascicle/fasciclelaw17.DecodeStrict", spec := "decodeStrict", inPlace := ["internal/bytealg.IndexByte", "internal/bytealg.MakeNoZero"], unfollowed := true, recurses := true, apart := false }
def DecodeStrictSaid : Prop := decodeStrictRow.holds Tryz.pinned (OpenSpec.ofChange decodeStrictSpec)

/-- ITS FALSE NEIGHBOUR: 'it returns false'. Refute it at one input. -/
def decodeStrictWrong : ChangeSpec := { name := "decodeStrict", fn := fun _ => fun
  | [d1, d2, d3, d4] => { results := [.lit (.bool false)], args := [d1, d2, d3, d4] }
  | _ => none }
def DecodeStrictWrongFalsely : Prop := decodeStrictRow.holds Tryz.pinned (OpenSpec.ofChange decodeStrictWrong)

/-- 'fasciclelaw25.RebuildDrops': WHATEVER THE INPUT: true; the input reads as it did. -/
def rebuildDropsSpec : ChangeSpec := { name := "rebuildDrops", fn := fun _ => fun
  | [d] => { results := [.lit (.bool true)], args := [d] }
  | _ => none }
def rebuildDropsRow : OpenClaim := { program := "ytkpacfcklpoanaagreat", sum := "d2d4fa16e78b824c544837631df2e0d70ff4dc5a2fec88c689f50efd12c671d2", func := "fascicle/fasciclelaw25.RebuildDrops", spec := "rebuildDrops", inPlace := ["internal/bytealg.IndexByte", "internal/bytealg.MakeNoZero"], unfollowed := true, recurses := true, apart := false }
def RebuildDropsSaid : Prop := rebuildDropsRow.holds Tryz.pinned (OpenSpec.ofChange rebuildDropsSpec)

/-- ITS FALSE NEIGHBOUR: 'it returns false'. Refute it at one input. -/
def rebuildDropsWrong : ChangeSpec := { name := "rebuildDrops", fn := fun _ => fun
  | [d] => { results := [.lit (.bool false)], args := [d] }
  | _ => none }
def RebuildDropsWrongFalsely : Prop := rebuildDropsRow.holds Tryz.pinned (OpenSpec.ofChange rebuildDropsWrong)

/-- 'fasciclelaw25.RebuildOrders': WHATEVER THE INPUT: true; the input reads as it did. -/
def rebuildOrdersSpec : ChangeSpec := { name := "rebuildOrders", fn := fun _ => fun
  | [d1, d2] => { results := [.lit (.bool true)], args := [d1, d2] }
  | _ => none }
def rebuildOrdersRow : OpenClaim := { program := "ytkpacfcklpoanaagreat", sum := "d2d4fa16e78b824c544837631df2e0d70ff4dc5a2fec88c689f50efd12c671d2", func := "fascicle/fasciclelaw25.RebuildOrders", spec := "rebuildOrders", inPlace := ["internal/bytealg.IndexByte", "internal/bytealg.MakeNoZero"], unfollowed := true, recurses := true, apart := false }
def RebuildOrdersSaid : Prop := rebuildOrdersRow.holds Tryz.pinned (OpenSpec.ofChange rebuildOrdersSpec)

/-- ITS FALSE NEIGHBOUR: 'it returns false'. Refute it at one input. -/
def rebuildOrdersWrong : ChangeSpec := { name := "rebuildOrders", fn := fun _ => fun
  | [d1, d2] => { results := [.lit (.bool false)], args := [d1, d2] }
  | _ => none }
def RebuildOrdersWrongFalsely : Prop := rebuildOrdersRow.holds Tryz.pinned (OpenSpec.ofChange rebuildOrdersWrong)

/-- 'fasciclelaw30.ReportAny': WHATEVER THE INPUT: true; the input reads as it did. -/
def reportAnySpec : ChangeSpec := { name := "reportAny", fn := fun _ => fun
  | [d1, d2, d3] => { results := [.lit (.bool true)], args := [d1, d2, d3] }
  | _ => none }
def reportAnyRow : OpenClaim := { program := "ytkpacfcklpoanaagreat", sum := "d2d4fa16e78b824c544837631df2e0d70ff4dc5a2fec88c689f50efd12c671d2", func := "fascicle/fasciclelaw30.ReportAny", spec := "reportAny", inPlace := ["internal/bytealg.IndexByte", "internal/bytealg.MakeNoZero", "math.Float64bits"], unfollowed := true, recurses := true, apart := false }
def ReportAnySaid : Prop := reportAnyRow.holds Tryz.pinned (OpenSpec.ofChange reportAnySpec)

/-- ITS FALSE NEIGHBOUR: 'it returns false'. Refute it at one input. -/
def reportAnyWrong : ChangeSpec := { name := "reportAny", fn := fun _ => fun
  | [d1, d2, d3] => { results := [.lit (.bool false)], args := [d1, d2, d3] }
  | _ => none }
def ReportAnyWrongFalsely : Prop := reportAnyRow.holds Tryz.pinned (OpenSpec.ofChange reportAnyWrong)

/-- 'fascicletop.TopGet': WHATEVER THE INPUT: true; the input reads as it did. -/
def topGetSpec : ChangeSpec := { name := "topGet", fn := fun _ => fun
  | [d1, d2, d3] => { results := [.lit (.bool true)], args := [d1, d2, d3] }
  | _ => none }
def topGetRow : OpenClaim := { program := "ytkpacfcklpoanaagreat", sum := "d2d4fa16e78b824c544837631df2e0d70ff4dc5a2fec88c689f50efd12c671d2", func := "fascicle/fascicletop.TopGet", spec := "topGet", inPlace := ["internal/bytealg.IndexByte", "internal/bytealg.MakeNoZero", "internal/abi.NoEscape"], unfollowed := true, recurses := true, apart := false }
def TopGetSaid : Prop := topGetRow.holds Tryz.pinned (OpenSpec.ofChange topGetSpec)

/-- ITS FALSE NEIGHBOUR: 'it returns false'. Refute it at one input. -/
def topGetWrong : ChangeSpec := { name := "topGet", fn := fun _ => fun
  | [d1, d2, d3] => { results := [.lit (.bool false)], args := [d1, d2, d3] }
  | _ => none }
def TopGetWrongFalsely : Prop := topGetRow.holds Tryz.pinned (OpenSpec.ofChange topGetWrong)

/-- 'fasciclelaw30.ReportImage': WHATEVER THE INPUT: true; the input reads as it did. -/
def reportImageSpec : ChangeSpec := { name := "reportImage", fn := fun _ => fun
  | [d1, d2] => { results := [.lit (.bool true)], args := [d1, d2] }
  | _ => none }
def reportImageRow : OpenClaim := { program := "ytkpacfcklpoanaagreat", sum := "d2d4fa16e78b824c544837631df2e0d70ff4dc5a2fec88c689f50efd12c671d2", func := "fascicle/fasciclelaw30.ReportImage", spec := "reportImage", inPlace := ["internal/bytealg.IndexByte", "internal/bytealg.MakeNoZero", "math.Float64bits"], unfollowed := true, recurses := true, apart := false }
def ReportImageSaid : Prop := reportImageRow.holds Tryz.pinned (OpenSpec.ofChange reportImageSpec)

/-- ITS FALSE NEIGHBOUR: 'it returns false'. Refute it at one input. -/
def reportImageWrong : ChangeSpec := { name := "reportImage", fn := fun _ => fun
  | [d1, d2] => { results := [.lit (.bool false)], args := [d1, d2] }
  | _ => none }
def ReportImageWrongFalsely : Prop := reportImageRow.holds Tryz.pinned (OpenSpec.ofChange reportImageWrong)

/-- 'fasciclelaw19.LookupCosts': WHATEVER THE INPUT: true; the input reads as it did. -/
def lookupCostsSpec : ChangeSpec := { name := "lookupCosts", fn := fun _ => fun
  | [d1, d2, d3] => { results := [.lit (.bool true)], args := [d1, d2, d3] }
  | _ => none }
def lookupCostsRow : OpenClaim := { program := "ytkpacfcklpoanaagreat", sum := "d2d4fa16e78b824c544837631df2e0d70ff4dc5a2fec88c689f50efd12c671d2", func := "fascicle/fasciclelaw19.LookupCosts", spec := "lookupCosts", inPlace := ["internal/bytealg.IndexByte", "internal/bytealg.MakeNoZero"], unfollowed := true, recurses := true, apart := false }
def LookupCostsSaid : Prop := lookupCostsRow.holds Tryz.pinned (OpenSpec.ofChange lookupCostsSpec)

/-- ITS FALSE NEIGHBOUR: 'it returns false'. Refute it at one input. -/
def lookupCostsWrong : ChangeSpec := { name := "lookupCosts", fn := fun _ => fun
  | [d1, d2, d3] => { results := [.lit (.bool false)], args := [d1, d2, d3] }
  | _ => none }
def LookupCostsWrongFalsely : Prop := lookupCostsRow.holds Tryz.pinned (OpenSpec.ofChange lookupCostsWrong)

/-- 'fasciclelaw19.LookupGets': WHATEVER THE INPUT: true; the input reads as it did. -/
def lookupGetsSpec : ChangeSpec := { name := "lookupGets", fn := fun _ => fun
  | [d1, d2, d3] => { results := [.lit (.bool true)], args := [d1, d2, d3] }
  | _ => none }
def lookupGetsRow : OpenClaim := { program := "ytkpacfcklpoanaagreat", sum := "d2d4fa16e78b824c544837631df2e0d70ff4dc5a2fec88c689f50efd12c671d2", func := "fascicle/fasciclelaw19.LookupGets", spec := "lookupGets", inPlace := ["internal/bytealg.IndexByte", "internal/bytealg.MakeNoZero"], unfollowed := true, recurses := true, apart := false }
def LookupGetsSaid : Prop := lookupGetsRow.holds Tryz.pinned (OpenSpec.ofChange lookupGetsSpec)

/-- ITS FALSE NEIGHBOUR: 'it returns false'. Refute it at one input. -/
def lookupGetsWrong : ChangeSpec := { name := "lookupGets", fn := fun _ => fun
  | [d1, d2, d3] => { results := [.lit (.bool false)], args := [d1, d2, d3] }
  | _ => none }
def LookupGetsWrongFalsely : Prop := lookupGetsRow.holds Tryz.pinned (OpenSpec.ofChange lookupGetsWrong)

/-- 'fasciclelaw32.ScriptParses': WHATEVER THE INPUT: true; the input reads as it did. -/
def scriptParsesSpec : ChangeSpec := { name := "scriptParses", fn := fun _ => fun
  | [d] => { results := [.lit (.bool true)], args := [d] }
  | _ => none }
def scriptParsesRow : OpenClaim := { program := "ytkpacfcklpoanaagreat", sum := "d2d4fa16e78b824c544837631df2e0d70ff4dc5a2fec88c689f50efd12c671d2", func := "fascicle/fasciclelaw32.ScriptParses", spec := "scriptParses", inPlace := ["internal/abi.NoEscape", "internal/bytealg.MakeNoZero", "internal/bytealg.IndexByte"], unfollowed := true, recurses := true, apart := false }
def ScriptParsesSaid : Prop := scriptParsesRow.holds Tryz.pinned (OpenSpec.ofChange scriptParsesSpec)

/-- ITS FALSE NEIGHBOUR: 'it returns false'. Refute it at one input. -/
def scriptParsesWrong : ChangeSpec := { name := "scriptParses", fn := fun _ => fun
  | [d] => { results := [.lit (.bool false)], args := [d] }
  | _ => none }
def ScriptParsesWrongFalsely : Prop := scriptParsesRow.holds Tryz.pinned (OpenSpec.ofChange scriptParsesWrong)

/-- 'fasciclelaw31.FsckChecks': WHATEVER THE INPUT: true; the input reads as it did. -/
def fsckChecksSpec : ChangeSpec := { name := "fsckChecks", fn := fun _ => fun
  | [d1, d2] => { results := [.lit (.bool true)], args := [d1, d2] }
  | _ => none }
def fsckChecksRow : OpenClaim := { program := "ytkpacfcklpoanaagreat", sum := "d2d4fa16e78b824c544837631df2e0d70ff4dc5a2fec88c689f50efd12c671d2", func := "fascicle/fasciclelaw31.FsckChecks", spec := "fsckChecks", inPlace := ["internal/bytealg.IndexByte", "internal/bytealg.MakeNoZero"], unfollowed := true, recurses := true, apart := false }
def FsckChecksSaid : Prop := fsckChecksRow.holds Tryz.pinned (OpenSpec.ofChange fsckChecksSpec)

/-- ITS FALSE NEIGHBOUR: 'it returns false'. Refute it at one input. -/
def fsckChecksWrong : ChangeSpec := { name := "fsckChecks", fn := fun _ => fun
  | [d1, d2] => { results := [.lit (.bool false)], args := [d1, d2] }
  | _ => none }
def FsckChecksWrongFalsely : Prop := fsckChecksRow.holds Tryz.pinned (OpenSpec.ofChange fsckChecksWrong)

/-- 'fasciclelaw30.ReportHealth': WHATEVER THE INPUT: true; the input reads as it did. -/
def reportHealthSpec : ChangeSpec := { name := "reportHealth", fn := fun _ => fun
  | [d] => { results := [.lit (.bool true)], args := [d] }
  | _ => none }
def reportHealthRow : OpenClaim := { program := "ytkpacfcklpoanaagreat", sum := "d2d4fa16e78b824c544837631df2e0d70ff4dc5a2fec88c689f50efd12c671d2", func := "fascicle/fasciclelaw30.ReportHealth", spec := "reportHealth", inPlace := ["internal/bytealg.IndexByte", "internal/bytealg.MakeNoZero", "math.Float64bits", "math.Float64frombits"], unfollowed := true, recurses := true, apart := false }
def ReportHealthSaid : Prop := reportHealthRow.holds Tryz.pinned (OpenSpec.ofChange reportHealthSpec)

/-- ITS FALSE NEIGHBOUR: 'it returns false'. Refute it at one input. -/
def reportHealthWrong : ChangeSpec := { name := "reportHealth", fn := fun _ => fun
  | [d] => { results := [.lit (.bool false)], args := [d] }
  | _ => none }
def ReportHealthWrongFalsely : Prop := reportHealthRow.holds Tryz.pinned (OpenSpec.ofChange reportHealthWrong)

/-- 'fasciclelaw31.FsckTorn': WHATEVER THE INPUT: true; the input reads as it did. -/
def fsckTornSpec : ChangeSpec := { name := "fsckTorn", fn := fun _ => fun
  | [d1, d2, d3] => { results := [.lit (.bool true)], args := [d1, d2, d3] }
  | _ => none }
def fsckTornRow : OpenClaim := { program := "ytkpacfcklpoanaagreat", sum := "d2d4fa16e78b824c544837631df2e0d70ff4dc5a2fec88c689f50efd12c671d2", func := "fascicle/fasciclelaw31.FsckTorn", spec := "fsckTorn", inPlace := ["internal/bytealg.IndexByte", "internal/bytealg.MakeNoZero"], unfollowed := true, recurses := true, apart := false }
def FsckTornSaid : Prop := fsckTornRow.holds Tryz.pinned (OpenSpec.ofChange fsckTornSpec)

/-- ITS FALSE NEIGHBOUR: 'it returns false'. Refute it at one input. -/
def fsckTornWrong : ChangeSpec := { name := "fsckTorn", fn := fun _ => fun
  | [d1, d2, d3] => { results := [.lit (.bool false)], args := [d1, d2, d3] }
  | _ => none }
def FsckTornWrongFalsely : Prop := fsckTornRow.holds Tryz.pinned (OpenSpec.ofChange fsckTornWrong)

/-- 'fasciclelaw27.MigrateBack': WHATEVER THE INPUT: true; the input reads as it did. -/
def migrateBackSpec : ChangeSpec := { name := "migrateBack", fn := fun _ => fun
  | [d] => { results := [.lit (.bool true)], args := [d] }
  | _ => none }
def migrateBackRow : OpenClaim := { program := "ytkpacfcklpoanaagreat", sum := "d2d4fa16e78b824c544837631df2e0d70ff4dc5a2fec88c689f50efd12c671d2", func := "fascicle/fasciclelaw27.MigrateBack", spec := "migrateBack", inPlace := ["internal/bytealg.IndexByte", "internal/bytealg.MakeNoZero"], unfollowed := true, recurses := true, apart := false }
def MigrateBackSaid : Prop := migrateBackRow.holds Tryz.pinned (OpenSpec.ofChange migrateBackSpec)

/-- ITS FALSE NEIGHBOUR: 'it returns false'. Refute it at one input. -/
def migrateBackWrong : ChangeSpec := { name := "migrateBack", fn := fun _ => fun
  | [d] => { results := [.lit (.bool false)], args := [d] }
  | _ => none }
def MigrateBackWrongFalsely : Prop := migrateBackRow.holds Tryz.pinned (OpenSpec.ofChange migrateBackWrong)

/- THE SECOND FORM. 'bulk': how many values and letters a reading holds, each counted each time it is reached (what is shared counts as often as it is met; a slice's spare places count too). A statement '..UptoSaid' is the law's where the arguments, and the package variables that the reading takes, are together of bulk at most 1048576: NARROWER than '..Said'. Prove '..Said' where nothing that the law and all that it calls make is longer than what came in: it says more and counts as full. Else prove '..UptoSaid'. A law counts once. -/
mutual
def uptoBulk {H : Type} : DataW H → Nat
  | .lit (.string bytes) => bytes.length + 1
  | .lit _ => 1
  | .nil => 1
  | .ptr d => uptoBulk d + 1
  | .slice elems spare => uptoBulkAll elems + uptoBulkAll spare + 1
  | .agg parts => uptoBulkAll parts + 1
  | .iface _ d => uptoBulk d + 1
  | .map entries => uptoBulkEntries entries + 1
  | .held _ => 1
def uptoBulkAll {H : Type} : List (DataW H) → Nat
  | [] => 0
  | d :: r => uptoBulk d + uptoBulkAll r
def uptoBulkEntries {H : Type} : List (Lit × DataW H) → Nat
  | [] => 0
  | x :: r => uptoBulkEntry x + uptoBulkEntries r
def uptoBulkEntry {H : Type} : Lit × DataW H → Nat
  | (.string bytes, d) => bytes.length + uptoBulk d + 1
  | (_, d) => uptoBulk d + 1
 end
def uptoSmall : (H : Type) → List (DataW H) → Bool := fun _ ds => decide (uptoBulkAll ds ≤ 1048576)
def OpenSpec.upto (s : _root_.Go.ChangeSpec) : _root_.Go.OpenSpec := { _root_.Go.OpenSpec.ofChange s with cond := some uptoSmall }

/-- 'fasciclelaw23.SalvageBounds', WHERE WHAT IT READS IS OF BULK AT MOST 1048576: true; the input reads as it did. -/
def salvageBoundsUptoRow : OpenClaim := { program := "ytkpacfcklpoanaagreat", sum := "d2d4fa16e78b824c544837631df2e0d70ff4dc5a2fec88c689f50efd12c671d2", func := "fascicle/fasciclelaw23.SalvageBounds", spec := "salvageBounds", inPlace := ["internal/bytealg.IndexByte", "internal/bytealg.MakeNoZero"], unfollowed := true, recurses := true, apart := false, narrowed := true }
def SalvageBoundsUptoSaid : Prop := salvageBoundsUptoRow.holds Tryz.pinned (OpenSpec.upto salvageBoundsSpec)

/-- 'fasciclelaw23.SalvageParts', WHERE WHAT IT READS IS OF BULK AT MOST 1048576: true; the input reads as it did. -/
def salvagePartsUptoRow : OpenClaim := { program := "ytkpacfcklpoanaagreat", sum := "d2d4fa16e78b824c544837631df2e0d70ff4dc5a2fec88c689f50efd12c671d2", func := "fascicle/fasciclelaw23.SalvageParts", spec := "salvageParts", inPlace := ["internal/bytealg.IndexByte", "internal/bytealg.MakeNoZero"], unfollowed := true, recurses := true, apart := false, narrowed := true }
def SalvagePartsUptoSaid : Prop := salvagePartsUptoRow.holds Tryz.pinned (OpenSpec.upto salvagePartsSpec)

/-- 'fasciclelaw23.SalvageAny', WHERE WHAT IT READS IS OF BULK AT MOST 1048576: true; the input reads as it did. -/
def salvageAnyUptoRow : OpenClaim := { program := "ytkpacfcklpoanaagreat", sum := "d2d4fa16e78b824c544837631df2e0d70ff4dc5a2fec88c689f50efd12c671d2", func := "fascicle/fasciclelaw23.SalvageAny", spec := "salvageAny", inPlace := ["internal/bytealg.IndexByte", "internal/bytealg.MakeNoZero"], unfollowed := true, recurses := true, apart := false, narrowed := true }
def SalvageAnyUptoSaid : Prop := salvageAnyUptoRow.holds Tryz.pinned (OpenSpec.upto salvageAnySpec)

/-- 'fasciclelaw23.SalvageImage', WHERE WHAT IT READS IS OF BULK AT MOST 1048576: true; the input reads as it did. -/
def salvageImageUptoRow : OpenClaim := { program := "ytkpacfcklpoanaagreat", sum := "d2d4fa16e78b824c544837631df2e0d70ff4dc5a2fec88c689f50efd12c671d2", func := "fascicle/fasciclelaw23.SalvageImage", spec := "salvageImage", inPlace := ["internal/bytealg.IndexByte", "internal/bytealg.MakeNoZero"], unfollowed := true, recurses := true, apart := false, narrowed := true }
def SalvageImageUptoSaid : Prop := salvageImageUptoRow.holds Tryz.pinned (OpenSpec.upto salvageImageSpec)

/-- 'fasciclelaw24.DamageApplies', WHERE WHAT IT READS IS OF BULK AT MOST 1048576: true; the input reads as it did. -/
def damageAppliesUptoRow : OpenClaim := { program := "ytkpacfcklpoanaagreat", sum := "d2d4fa16e78b824c544837631df2e0d70ff4dc5a2fec88c689f50efd12c671d2", func := "fascicle/fasciclelaw24.DamageApplies", spec := "damageApplies", inPlace := ["internal/bytealg.IndexByte", "internal/bytealg.MakeNoZero"], unfollowed := true, recurses := true, apart := false, narrowed := true }
def DamageAppliesUptoSaid : Prop := damageAppliesUptoRow.holds Tryz.pinned (OpenSpec.upto damageAppliesSpec)

/-- 'fasciclelaw24.DamageSublist', WHERE WHAT IT READS IS OF BULK AT MOST 1048576: true; the input reads as it did. -/
def damageSublistUptoRow : OpenClaim := { program := "ytkpacfcklpoanaagreat", sum := "d2d4fa16e78b824c544837631df2e0d70ff4dc5a2fec88c689f50efd12c671d2", func := "fascicle/fasciclelaw24.DamageSublist", spec := "damageSublist", inPlace := ["internal/bytealg.IndexByte", "internal/bytealg.MakeNoZero"], unfollowed := true, recurses := true, apart := false, narrowed := true }
def DamageSublistUptoSaid : Prop := damageSublistUptoRow.holds Tryz.pinned (OpenSpec.upto damageSublistSpec)

/-- 'fasciclelaw24.DamageOthers', WHERE WHAT IT READS IS OF BULK AT MOST 1048576: true; the input reads as it did. -/
def damageOthersUptoRow : OpenClaim := { program := "ytkpacfcklpoanaagreat", sum := "d2d4fa16e78b824c544837631df2e0d70ff4dc5a2fec88c689f50efd12c671d2", func := "fascicle/fasciclelaw24.DamageOthers", spec := "damageOthers", inPlace := ["internal/bytealg.IndexByte", "internal/bytealg.MakeNoZero"], unfollowed := true, recurses := true, apart := false, narrowed := true }
def DamageOthersUptoSaid : Prop := damageOthersUptoRow.holds Tryz.pinned (OpenSpec.upto damageOthersSpec)

/-- 'fascicletop.TopCrash', WHERE WHAT IT READS IS OF BULK AT MOST 1048576: true; the input reads as it did. -/
def topCrashUptoRow : OpenClaim := { program := "ytkpacfcklpoanaagreat", sum := "d2d4fa16e78b824c544837631df2e0d70ff4dc5a2fec88c689f50efd12c671d2", func := "fascicle/fascicletop.TopCrash", spec := "topCrash", inPlace := ["internal/bytealg.IndexByte", "internal/bytealg.MakeNoZero", "internal/abi.NoEscape"], unfollowed := true, recurses := true, apart := false, narrowed := true }
def TopCrashUptoSaid : Prop := topCrashUptoRow.holds Tryz.pinned (OpenSpec.upto topCrashSpec)

/-- 'fasciclelaw24.DamageErrors', WHERE WHAT IT READS IS OF BULK AT MOST 1048576: true; the input reads as it did. -/
def damageErrorsUptoRow : OpenClaim := { program := "ytkpacfcklpoanaagreat", sum := "d2d4fa16e78b824c544837631df2e0d70ff4dc5a2fec88c689f50efd12c671d2", func := "fascicle/fasciclelaw24.DamageErrors", spec := "damageErrors", inPlace := ["internal/bytealg.IndexByte", "internal/bytealg.MakeNoZero"], unfollowed := true, recurses := true, apart := false, narrowed := true }
def DamageErrorsUptoSaid : Prop := damageErrorsUptoRow.holds Tryz.pinned (OpenSpec.upto damageErrorsSpec)

/-- 'fasciclelaw24.DamageSure', WHERE WHAT IT READS IS OF BULK AT MOST 1048576: true; the input reads as it did. -/
def damageSureUptoRow : OpenClaim := { program := "ytkpacfcklpoanaagreat", sum := "d2d4fa16e78b824c544837631df2e0d70ff4dc5a2fec88c689f50efd12c671d2", func := "fascicle/fasciclelaw24.DamageSure", spec := "damageSure", inPlace := ["internal/bytealg.IndexByte", "internal/bytealg.MakeNoZero"], unfollowed := true, recurses := true, apart := false, narrowed := true }
def DamageSureUptoSaid : Prop := damageSureUptoRow.holds Tryz.pinned (OpenSpec.upto damageSureSpec)

/-- 'fasciclelaw17.DecodeViews', WHERE WHAT IT READS IS OF BULK AT MOST 1048576: true; the input reads as it did. -/
def decodeViewsUptoRow : OpenClaim := { program := "ytkpacfcklpoanaagreat", sum := "d2d4fa16e78b824c544837631df2e0d70ff4dc5a2fec88c689f50efd12c671d2", func := "fascicle/fasciclelaw17.DecodeViews", spec := "decodeViews", inPlace := ["internal/bytealg.IndexByte", "internal/bytealg.MakeNoZero"], unfollowed := true, recurses := true, apart := false, narrowed := true }
def DecodeViewsUptoSaid : Prop := decodeViewsUptoRow.holds Tryz.pinned (OpenSpec.upto decodeViewsSpec)

/-- 'fasciclelaw17.DecodeBack', WHERE WHAT IT READS IS OF BULK AT MOST 1048576: true; the input reads as it did. -/
def decodeBackUptoRow : OpenClaim := { program := "ytkpacfcklpoanaagreat", sum := "d2d4fa16e78b824c544837631df2e0d70ff4dc5a2fec88c689f50efd12c671d2", func := "fascicle/fasciclelaw17.DecodeBack", spec := "decodeBack", inPlace := ["internal/bytealg.IndexByte", "internal/bytealg.MakeNoZero"], unfollowed := true, recurses := true, apart := false, narrowed := true }
def DecodeBackUptoSaid : Prop := decodeBackUptoRow.holds Tryz.pinned (OpenSpec.upto decodeBackSpec)

/-- 'fasciclelaw17.DecodeStrict', WHERE WHAT IT READS IS OF BULK AT MOST 1048576: true; the input reads as it did. -/
def decodeStrictUptoRow : OpenClaim := { program := "ytkpacfcklpoanaagreat", sum := "d2d4fa16e78b824c544837631df2e0d70ff4dc5a2fec88c689f50efd12c671d2", func := "fascicle/fasciclelaw17.DecodeStrict", spec := "decodeStrict", inPlace := ["internal/bytealg.IndexByte", "internal/bytealg.MakeNoZero"], unfollowed := true, recurses := true, apart := false, narrowed := true }
def DecodeStrictUptoSaid : Prop := decodeStrictUptoRow.holds Tryz.pinned (OpenSpec.upto decodeStrictSpec)

/-- 'fasciclelaw25.RebuildDrops', WHERE WHAT IT READS IS OF BULK AT MOST 1048576: true; the input reads as it did. -/
def rebuildDropsUptoRow : OpenClaim := { program := "ytkpacfcklpoanaagreat", sum := "d2d4fa16e78b824c544837631df2e0d70ff4dc5a2fec88c689f50efd12c671d2", func := "fascicle/fasciclelaw25.RebuildDrops", spec := "rebuildDrops", inPlace := ["internal/bytealg.IndexByte", "internal/bytealg.MakeNoZero"], unfollowed := true, recurses := true, apart := false, narrowed := true }
def RebuildDropsUptoSaid : Prop := rebuildDropsUptoRow.holds Tryz.pinned (OpenSpec.upto rebuildDropsSpec)

/-- 'fasciclelaw25.RebuildOrders', WHERE WHAT IT READS IS OF BULK AT MOST 1048576: true; the input reads as it did. -/
def rebuildOrdersUptoRow : OpenClaim := { program := "ytkpacfcklpoanaagreat", sum := "d2d4fa16e78b824c544837631df2e0d70ff4dc5a2fec88c689f50efd12c671d2", func := "fascicle/fasciclelaw25.RebuildOrders", spec := "rebuildOrders", inPlace := ["internal/bytealg.IndexByte", "internal/bytealg.MakeNoZero"], unfollowed := true, recurses := true, apart := false, narrowed := true }
def RebuildOrdersUptoSaid : Prop := rebuildOrdersUptoRow.holds Tryz.pinned (OpenSpec.upto rebuildOrdersSpec)

/-- 'fasciclelaw30.ReportAny', WHERE WHAT IT READS IS OF BULK AT MOST 1048576: true; the input reads as it did. -/
def reportAnyUptoRow : OpenClaim := { program := "ytkpacfcklpoanaagreat", sum := "d2d4fa16e78b824c544837631df2e0d70ff4dc5a2fec88c689f50efd12c671d2", func := "fascicle/fasciclelaw30.ReportAny", spec := "reportAny", inPlace := ["internal/bytealg.IndexByte", "internal/bytealg.MakeNoZero", "math.Float64bits"], unfollowed := true, recurses := true, apart := false, narrowed := true }
def ReportAnyUptoSaid : Prop := reportAnyUptoRow.holds Tryz.pinned (OpenSpec.upto reportAnySpec)

/-- 'fascicletop.TopGet', WHERE WHAT IT READS IS OF BULK AT MOST 1048576: true; the input reads as it did. -/
def topGetUptoRow : OpenClaim := { program := "ytkpacfcklpoanaagreat", sum := "d2d4fa16e78b824c544837631df2e0d70ff4dc5a2fec88c689f50efd12c671d2", func := "fascicle/fascicletop.TopGet", spec := "topGet", inPlace := ["internal/bytealg.IndexByte", "internal/bytealg.MakeNoZero", "internal/abi.NoEscape"], unfollowed := true, recurses := true, apart := false, narrowed := true }
def TopGetUptoSaid : Prop := topGetUptoRow.holds Tryz.pinned (OpenSpec.upto topGetSpec)

/-- 'fasciclelaw30.ReportImage', WHERE WHAT IT READS IS OF BULK AT MOST 1048576: true; the input reads as it did. -/
def reportImageUptoRow : OpenClaim := { program := "ytkpacfcklpoanaagreat", sum := "d2d4fa16e78b824c544837631df2e0d70ff4dc5a2fec88c689f50efd12c671d2", func := "fascicle/fasciclelaw30.ReportImage", spec := "reportImage", inPlace := ["internal/bytealg.IndexByte", "internal/bytealg.MakeNoZero", "math.Float64bits"], unfollowed := true, recurses := true, apart := false, narrowed := true }
def ReportImageUptoSaid : Prop := reportImageUptoRow.holds Tryz.pinned (OpenSpec.upto reportImageSpec)

/-- 'fasciclelaw19.LookupCosts', WHERE WHAT IT READS IS OF BULK AT MOST 1048576: true; the input reads as it did. -/
def lookupCostsUptoRow : OpenClaim := { program := "ytkpacfcklpoanaagreat", sum := "d2d4fa16e78b824c544837631df2e0d70ff4dc5a2fec88c689f50efd12c671d2", func := "fascicle/fasciclelaw19.LookupCosts", spec := "lookupCosts", inPlace := ["internal/bytealg.IndexByte", "internal/bytealg.MakeNoZero"], unfollowed := true, recurses := true, apart := false, narrowed := true }
def LookupCostsUptoSaid : Prop := lookupCostsUptoRow.holds Tryz.pinned (OpenSpec.upto lookupCostsSpec)

/-- 'fasciclelaw19.LookupGets', WHERE WHAT IT READS IS OF BULK AT MOST 1048576: true; the input reads as it did. -/
def lookupGetsUptoRow : OpenClaim := { program := "ytkpacfcklpoanaagreat", sum := "d2d4fa16e78b824c544837631df2e0d70ff4dc5a2fec88c689f50efd12c671d2", func := "fascicle/fasciclelaw19.LookupGets", spec := "lookupGets", inPlace := ["internal/bytealg.IndexByte", "internal/bytealg.MakeNoZero"], unfollowed := true, recurses := true, apart := false, narrowed := true }
def LookupGetsUptoSaid : Prop := lookupGetsUptoRow.holds Tryz.pinned (OpenSpec.upto lookupGetsSpec)

/-- 'fasciclelaw32.ScriptParses', WHERE WHAT IT READS IS OF BULK AT MOST 1048576: true; the input reads as it did. -/
def scriptParsesUptoRow : OpenClaim := { program := "ytkpacfcklpoanaagreat", sum := "d2d4fa16e78b824c544837631df2e0d70ff4dc5a2fec88c689f50efd12c671d2", func := "fascicle/fasciclelaw32.ScriptParses", spec := "scriptParses", inPlace := ["internal/abi.NoEscape", "internal/bytealg.MakeNoZero", "internal/bytealg.IndexByte"], unfollowed := true, recurses := true, apart := false, narrowed := true }
def ScriptParsesUptoSaid : Prop := scriptParsesUptoRow.holds Tryz.pinned (OpenSpec.upto scriptParsesSpec)

/-- 'fasciclelaw31.FsckChecks', WHERE WHAT IT READS IS OF BULK AT MOST 1048576: true; the input reads as it did. -/
def fsckChecksUptoRow : OpenClaim := { program := "ytkpacfcklpoanaagreat", sum := "d2d4fa16e78b824c544837631df2e0d70ff4dc5a2fec88c689f50efd12c671d2", func := "fascicle/fasciclelaw31.FsckChecks", spec := "fsckChecks", inPlace := ["internal/bytealg.IndexByte", "internal/bytealg.MakeNoZero"], unfollowed := true, recurses := true, apart := false, narrowed := true }
def FsckChecksUptoSaid : Prop := fsckChecksUptoRow.holds Tryz.pinned (OpenSpec.upto fsckChecksSpec)

/-- 'fasciclelaw30.ReportHealth', WHERE WHAT IT READS IS OF BULK AT MOST 1048576: true; the input reads as it did. -/
def reportHealthUptoRow : OpenClaim := { program := "ytkpacfcklpoanaagreat", sum := "d2d4fa16e78b824c544837631df2e0d70ff4dc5a2fec88c689f50efd12c671d2", func := "fascicle/fasciclelaw30.ReportHealth", spec := "reportHealth", inPlace := ["internal/bytealg.IndexByte", "internal/bytealg.MakeNoZero", "math.Float64bits", "math.Float64frombits"], unfollowed := true, recurses := true, apart := false, narrowed := true }
def ReportHealthUptoSaid : Prop := reportHealthUptoRow.holds Tryz.pinned (OpenSpec.upto reportHealthSpec)

/-- 'fasciclelaw31.FsckTorn', WHERE WHAT IT READS IS OF BULK AT MOST 1048576: true; the input reads as it did. -/
def fsckTornUptoRow : OpenClaim := { program := "ytkpacfcklpoanaagreat", sum := "d2d4fa16e78b824c544837631df2e0d70ff4dc5a2fec88c689f50efd12c671d2", func := "fascicle/fasciclelaw31.FsckTorn", spec := "fsckTorn", inPlace := ["internal/bytealg.IndexByte", "internal/bytealg.MakeNoZero"], unfollowed := true, recurses := true, apart := false, narrowed := true }
def FsckTornUptoSaid : Prop := fsckTornUptoRow.holds Tryz.pinned (OpenSpec.upto fsckTornSpec)

/-- 'fasciclelaw27.MigrateBack', WHERE WHAT IT READS IS OF BULK AT MOST 1048576: true; the input reads as it did. -/
def migrateBackUptoRow : OpenClaim := { program := "ytkpacfcklpoanaagreat", sum := "d2d4fa16e78b824c544837631df2e0d70ff4dc5a2fec88c689f50efd12c671d2", func := "fascicle/fasciclelaw27.MigrateBack", spec := "migrateBack", inPlace := ["internal/bytealg.IndexByte", "internal/bytealg.MakeNoZero"], unfollowed := true, recurses := true, apart := false, narrowed := true }
def MigrateBackUptoSaid : Prop := migrateBackUptoRow.holds Tryz.pinned (OpenSpec.upto migrateBackSpec)

end Rows
end Go.Proofs.YtkpacfcklpoanaaGreat
