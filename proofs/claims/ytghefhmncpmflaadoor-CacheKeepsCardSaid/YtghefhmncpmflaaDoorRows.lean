/-
  NARROWER THAN 'FOR EVERY INPUT', by the rows' own cells (each row's printed sentence says how): PlanWays: laid · PlanLeast: laid · CacheOld: laid · CacheKeeps: laid · CacheClean: laid · CachePlays: laid.
  DERIVED. THE GIVEN ROWS OF THIS SEAT. 6 by the template 'for every input the law returns true; each argument reads behind the call as it read before'; 0 by the template 'total and deterministic' (their statements: YtghefhmncpmflaaDoorTotals.lean).
  GIVEN WITH THE SEED: the statements are not yours to turn. If you find one false, say at which input.
  Laid BY PROGRAM, IN A SANDBOX (cutbox-rows.mjs): the forced cells as the released guide's own fill.sh prints them over the translation 36209ef4a53415fd… (all of the seat's roots in one cut). By AI agents, Wed Nov 11 2026. No macro, syntax, notation, axiom, sorry.
-/
import Derived.Test.YtghefhmncpmflaaDoorChecked
import GoSem.Claim
import GoSem.ClaimJoined
import GoSem.ClaimMapViews
import Derived.JoinedTies
import Derived.KernelRfl
namespace Go.Proofs.YtghefhmncpmflaaDoor
/- THE CELL 'sum', in the pinned program and in every row, IS THE sha256 OF THE DUMP (.gsa) THAT YtghefhmncpmflaaDoorProg.lean LOADS. Nothing in Lean hashes anything: it is a label: what it is worth is what the hold of that sum in a sandbox is worth. -/
noncomputable def Tryd.pinned : Pinned := { name := "ytghefhmncpmflaadoor", sum := "36209ef4a53415fd15d327eccfbc336d258a07f15d64c3fa69de11b7f77738be", checked := Tryd.checked }
namespace Rows
def none {H : Type} : Left H := { results := [], args := [] }

/- WHAT THE LISTED PACKAGE-LEVEL VARIABLES READ AS WHEN THE CALL BEGINS. Each datum BY PROGRAM (the guide's laid-datum.mjs) off the statement by which the dump's own 'gosem.cut.vars' lays the variable. In a bare row this is a premise. The card (YtghefhmncpmflaaDoorCards.lean) ties it to the program's text. -/
def laid_trunnion_plan_names {H : Type} : DataW H := .agg [.lit (.string [102, 117, 108, 108]), .lit (.string [103, 114, 101, 97, 116]), .lit (.string [115, 109, 97, 108, 108]), .lit (.string [119, 104, 111, 108, 101])]
def laid_math_bits_deBruijn64tab {H : Type} : DataW H := .agg [.lit (.int .u8 0), .lit (.int .u8 1), .lit (.int .u8 56), .lit (.int .u8 2), .lit (.int .u8 57), .lit (.int .u8 49), .lit (.int .u8 28), .lit (.int .u8 3), .lit (.int .u8 61), .lit (.int .u8 58), .lit (.int .u8 42), .lit (.int .u8 50), .lit (.int .u8 38), .lit (.int .u8 29), .lit (.int .u8 17), .lit (.int .u8 4), .lit (.int .u8 62), .lit (.int .u8 47), .lit (.int .u8 59), .lit (.int .u8 36), .lit (.int .u8 45), .lit (.int .u8 43), .lit (.int .u8 51), .lit (.int .u8 22), .lit (.int .u8 53), .lit (.int .u8 39), .lit (.int .u8 33), .lit (.int .u8 30), .lit (.int .u8 24), .lit (.int .u8 18), .lit (.int .u8 12), .lit (.int .u8 5), .lit (.int .u8 63), .lit (.int .u8 55), .lit (.int .u8 48), .lit (.int .u8 27), .lit (.int .u8 60), .lit (.int .u8 41), .lit (.int .u8 37), .lit (.int .u8 16), .lit (.int .u8 46), .lit (.int .u8 35), .lit (.int .u8 44), .lit (.int .u8 21), .lit (.int .u8 52), .lit (.int .u8 32), .lit (.int .u8 23), .lit (.int .u8 11), .lit (.int .u8 54), .lit (.int .u8 26), .lit (.int .u8 40), .lit (.int .u8 15), .lit (.int .u8 34), .lit (.int .u8 20), .lit (.int .u8 31), .lit (.int .u8 10), .lit (.int .u8 25), .lit (.int .u8 14), .lit (.int .u8 19), .lit (.int .u8 9), .lit (.int .u8 13), .lit (.int .u8 8), .lit (.int .u8 7), .lit (.int .u8 6)]

/-- 'trunnionlaw25.PlanWays': WHATEVER THE INPUT: true; the input reads as it did. -/
def planWaysSpec : ChangeSpec := { name := "planWays", fn := fun _ => fun
  | [d1, d2] => { results := [.lit (.bool true)], args := [d1, d2] }
  | _ => none }
def planWaysRow : OpenClaim := { program := "ytghefhmncpmflaadoor", sum := "36209ef4a53415fd15d327eccfbc336d258a07f15d64c3fa69de11b7f77738be", func := "trunnion/trunnionlaw25.PlanWays", spec := "planWays", unfollowed := true, recurses := true, named := ["trunnion/plan.names"], plainKeys := false, apart := false, laid := [("trunnion/plan.names", laid_trunnion_plan_names)] }
def PlanWaysSaid : Prop := planWaysRow.holds Tryd.pinned (OpenSpec.ofChange planWaysSpec)

/-- ITS FALSE NEIGHBOUR: 'it returns false'. Refute it at one input. -/
def planWaysWrong : ChangeSpec := { name := "planWays", fn := fun _ => fun
  | [d1, d2] => { results := [.lit (.bool false)], args := [d1, d2] }
  | _ => none }
def PlanWaysWrongFalsely : Prop := planWaysRow.holds Tryd.pinned (OpenSpec.ofChange planWaysWrong)

/-- 'trunnionlaw25.PlanLeast': WHATEVER THE INPUT: true; the input reads as it did. -/
def planLeastSpec : ChangeSpec := { name := "planLeast", fn := fun _ => fun
  | [d] => { results := [.lit (.bool true)], args := [d] }
  | _ => none }
def planLeastRow : OpenClaim := { program := "ytghefhmncpmflaadoor", sum := "36209ef4a53415fd15d327eccfbc336d258a07f15d64c3fa69de11b7f77738be", func := "trunnion/trunnionlaw25.PlanLeast", spec := "planLeast", unfollowed := true, recurses := true, named := ["trunnion/plan.names"], plainKeys := false, apart := false, laid := [("trunnion/plan.names", laid_trunnion_plan_names)] }
def PlanLeastSaid : Prop := planLeastRow.holds Tryd.pinned (OpenSpec.ofChange planLeastSpec)

/-- ITS FALSE NEIGHBOUR: 'it returns false'. Refute it at one input. -/
def planLeastWrong : ChangeSpec := { name := "planLeast", fn := fun _ => fun
  | [d] => { results := [.lit (.bool false)], args := [d] }
  | _ => none }
def PlanLeastWrongFalsely : Prop := planLeastRow.holds Tryd.pinned (OpenSpec.ofChange planLeastWrong)

/-- 'trunnionlaw24.CacheOld': WHATEVER THE INPUT: true; the input reads as it did. -/
def cacheOldSpec : ChangeSpec := { name := "cacheOld", fn := fun _ => fun
  | [d1, d2] => { results := [.lit (.bool true)], args := [d1, d2] }
  | _ => none }
def cacheOldRow : OpenClaim := { program := "ytghefhmncpmflaadoor", sum := "36209ef4a53415fd15d327eccfbc336d258a07f15d64c3fa69de11b7f77738be", func := "trunnion/trunnionlaw24.CacheOld", spec := "cacheOld", named := ["math/bits.deBruijn64tab"], plainKeys := false, apart := false, laid := [("math/bits.deBruijn64tab", laid_math_bits_deBruijn64tab)] }
def CacheOldSaid : Prop := cacheOldRow.holds Tryd.pinned (OpenSpec.ofChange cacheOldSpec)

/-- ITS FALSE NEIGHBOUR: 'it returns false'. Refute it at one input. -/
def cacheOldWrong : ChangeSpec := { name := "cacheOld", fn := fun _ => fun
  | [d1, d2] => { results := [.lit (.bool false)], args := [d1, d2] }
  | _ => none }
def CacheOldWrongFalsely : Prop := cacheOldRow.holds Tryd.pinned (OpenSpec.ofChange cacheOldWrong)

/-- 'trunnionlaw24.CacheKeeps': WHATEVER THE INPUT: true; the input reads as it did. -/
def cacheKeepsSpec : ChangeSpec := { name := "cacheKeeps", fn := fun _ => fun
  | [d1, d2] => { results := [.lit (.bool true)], args := [d1, d2] }
  | _ => none }
def cacheKeepsRow : OpenClaim := { program := "ytghefhmncpmflaadoor", sum := "36209ef4a53415fd15d327eccfbc336d258a07f15d64c3fa69de11b7f77738be", func := "trunnion/trunnionlaw24.CacheKeeps", spec := "cacheKeeps", named := ["math/bits.deBruijn64tab"], plainKeys := false, apart := false, laid := [("math/bits.deBruijn64tab", laid_math_bits_deBruijn64tab)] }
def CacheKeepsSaid : Prop := cacheKeepsRow.holds Tryd.pinned (OpenSpec.ofChange cacheKeepsSpec)

/-- ITS FALSE NEIGHBOUR: 'it returns false'. Refute it at one input. -/
def cacheKeepsWrong : ChangeSpec := { name := "cacheKeeps", fn := fun _ => fun
  | [d1, d2] => { results := [.lit (.bool false)], args := [d1, d2] }
  | _ => none }
def CacheKeepsWrongFalsely : Prop := cacheKeepsRow.holds Tryd.pinned (OpenSpec.ofChange cacheKeepsWrong)

/-- 'trunnionlaw24.CacheClean': WHATEVER THE INPUT: true; the input reads as it did. -/
def cacheCleanSpec : ChangeSpec := { name := "cacheClean", fn := fun _ => fun
  | [d1, d2] => { results := [.lit (.bool true)], args := [d1, d2] }
  | _ => none }
def cacheCleanRow : OpenClaim := { program := "ytghefhmncpmflaadoor", sum := "36209ef4a53415fd15d327eccfbc336d258a07f15d64c3fa69de11b7f77738be", func := "trunnion/trunnionlaw24.CacheClean", spec := "cacheClean", unfollowed := true, recurses := true, named := ["math/bits.deBruijn64tab"], plainKeys := false, apart := false, laid := [("math/bits.deBruijn64tab", laid_math_bits_deBruijn64tab)] }
def CacheCleanSaid : Prop := cacheCleanRow.holds Tryd.pinned (OpenSpec.ofChange cacheCleanSpec)

/-- ITS FALSE NEIGHBOUR: 'it returns false'. Refute it at one input. -/
def cacheCleanWrong : ChangeSpec := { name := "cacheClean", fn := fun _ => fun
  | [d1, d2] => { results := [.lit (.bool false)], args := [d1, d2] }
  | _ => none }
def CacheCleanWrongFalsely : Prop := cacheCleanRow.holds Tryd.pinned (OpenSpec.ofChange cacheCleanWrong)

/-- 'trunnionlaw24.CachePlays': WHATEVER THE INPUT: true; the input reads as it did. -/
def cachePlaysSpec : ChangeSpec := { name := "cachePlays", fn := fun _ => fun
  | [d1, d2] => { results := [.lit (.bool true)], args := [d1, d2] }
  | _ => none }
def cachePlaysRow : OpenClaim := { program := "ytghefhmncpmflaadoor", sum := "36209ef4a53415fd15d327eccfbc336d258a07f15d64c3fa69de11b7f77738be", func := "trunnion/trunnionlaw24.CachePlays", spec := "cachePlays", unfollowed := true, recurses := true, named := ["math/bits.deBruijn64tab"], plainKeys := false, apart := false, laid := [("math/bits.deBruijn64tab", laid_math_bits_deBruijn64tab)] }
def CachePlaysSaid : Prop := cachePlaysRow.holds Tryd.pinned (OpenSpec.ofChange cachePlaysSpec)

/-- ITS FALSE NEIGHBOUR: 'it returns false'. Refute it at one input. -/
def cachePlaysWrong : ChangeSpec := { name := "cachePlays", fn := fun _ => fun
  | [d1, d2] => { results := [.lit (.bool false)], args := [d1, d2] }
  | _ => none }
def CachePlaysWrongFalsely : Prop := cachePlaysRow.holds Tryd.pinned (OpenSpec.ofChange cachePlaysWrong)

/- THE SECOND FORM. 'bulk': how many values and letters a reading holds, each counted each time it is reached (what is shared counts as often as it is met; a slice's spare places count too). A statement '..UptoSaid' is the law's where the arguments, and the package variables that the reading takes, are together of bulk at most 1048576: NARROWER than '..Said'. Prove '..Said' where nothing that the law and all that it calls make is longer than what came in: it says more and counts as full. Else prove '..UptoSaid'. A law counts once. -/
mutual
def uptoBulk {H : Type} : DataW H → Nat
  | .lit (.string bytes) => bytes.length + 1
  | .lit _ => 1
  | .nil => 1
  | .ptr d => uptoBulk d + 1
  | .slice elems spare => uptoBulkAll elems + uptoBulkAll spare + 1
  | .agg parts => uptoBulkAll parts + 1
  | .iface _ d => uptoBulk d + 1
  | .map entries => uptoBulkEntries entries + 1
  | .held _ => 1
def uptoBulkAll {H : Type} : List (DataW H) → Nat
  | [] => 0
  | d :: r => uptoBulk d + uptoBulkAll r
def uptoBulkEntries {H : Type} : List (Lit × DataW H) → Nat
  | [] => 0
  | x :: r => uptoBulkEntry x + uptoBulkEntries r
def uptoBulkEntry {H : Type} : Lit × DataW H → Nat
  | (.string bytes, d) => bytes.length + uptoBulk d + 1
  | (_, d) => uptoBulk d + 1
 end
def uptoSmall : (H : Type) → List (DataW H) → Bool := fun _ ds => decide (uptoBulkAll ds ≤ 1048576)
def OpenSpec.upto (s : _root_.Go.ChangeSpec) : _root_.Go.OpenSpec := { _root_.Go.OpenSpec.ofChange s with cond := some uptoSmall }

/-- 'trunnionlaw25.PlanWays', WHERE WHAT IT READS IS OF BULK AT MOST 1048576: true; the input reads as it did. -/
def planWaysUptoRow : OpenClaim := { program := "ytghefhmncpmflaadoor", sum := "36209ef4a53415fd15d327eccfbc336d258a07f15d64c3fa69de11b7f77738be", func := "trunnion/trunnionlaw25.PlanWays", spec := "planWays", unfollowed := true, recurses := true, named := ["trunnion/plan.names"], plainKeys := false, apart := false, laid := [("trunnion/plan.names", laid_trunnion_plan_names)], narrowed := true }
def PlanWaysUptoSaid : Prop := planWaysUptoRow.holds Tryd.pinned (OpenSpec.upto planWaysSpec)

/-- 'trunnionlaw25.PlanLeast', WHERE WHAT IT READS IS OF BULK AT MOST 1048576: true; the input reads as it did. -/
def planLeastUptoRow : OpenClaim := { program := "ytghefhmncpmflaadoor", sum := "36209ef4a53415fd15d327eccfbc336d258a07f15d64c3fa69de11b7f77738be", func := "trunnion/trunnionlaw25.PlanLeast", spec := "planLeast", unfollowed := true, recurses := true, named := ["trunnion/plan.names"], plainKeys := false, apart := false, laid := [("trunnion/plan.names", laid_trunnion_plan_names)], narrowed := true }
def PlanLeastUptoSaid : Prop := planLeastUptoRow.holds Tryd.pinned (OpenSpec.upto planLeastSpec)

/-- 'trunnionlaw24.CacheOld', WHERE WHAT IT READS IS OF BULK AT MOST 1048576: true; the input reads as it did. -/
def cacheOldUptoRow : OpenClaim := { program := "ytghefhmncpmflaadoor", sum := "36209ef4a53415fd15d327eccfbc336d258a07f15d64c3fa69de11b7f77738be", func := "trunnion/trunnionlaw24.CacheOld", spec := "cacheOld", named := ["math/bits.deBruijn64tab"], plainKeys := false, apart := false, laid := [("math/bits.deBruijn64tab", laid_math_bits_deBruijn64tab)], narrowed := true }
def CacheOldUptoSaid : Prop := cacheOldUptoRow.holds Tryd.pinned (OpenSpec.upto cacheOldSpec)

/-- 'trunnionlaw24.CacheKeeps', WHERE WHAT IT READS IS OF BULK AT MOST 1048576: true; the input reads as it did. -/
def cacheKeepsUptoRow : OpenClaim := { program := "ytghefhmncpmflaadoor", sum := "36209ef4a53415fd15d327eccfbc336d258a07f15d64c3fa69de11b7f77738be", func := "trunnion/trunnionlaw24.CacheKeeps", spec := "cacheKeeps", named := ["math/bits.deBruijn64tab"], plainKeys := false, apart := false, laid := [("math/bits.deBruijn64tab", laid_math_bits_deBruijn64tab)], narrowed := true }
def CacheKeepsUptoSaid : Prop := cacheKeepsUptoRow.holds Tryd.pinned (OpenSpec.upto cacheKeepsSpec)

/-- 'trunnionlaw24.CacheClean', WHERE WHAT IT READS IS OF BULK AT MOST 1048576: true; the input reads as it did. -/
def cacheCleanUptoRow : OpenClaim := { program := "ytghefhmncpmflaadoor", sum := "36209ef4a53415fd15d327eccfbc336d258a07f15d64c3fa69de11b7f77738be", func := "trunnion/trunnionlaw24.CacheClean", spec := "cacheClean", unfollowed := true, recurses := true, named := ["math/bits.deBruijn64tab"], plainKeys := false, apart := false, laid := [("math/bits.deBruijn64tab", laid_math_bits_deBruijn64tab)], narrowed := true }
def CacheCleanUptoSaid : Prop := cacheCleanUptoRow.holds Tryd.pinned (OpenSpec.upto cacheCleanSpec)

/-- 'trunnionlaw24.CachePlays', WHERE WHAT IT READS IS OF BULK AT MOST 1048576: true; the input reads as it did. -/
def cachePlaysUptoRow : OpenClaim := { program := "ytghefhmncpmflaadoor", sum := "36209ef4a53415fd15d327eccfbc336d258a07f15d64c3fa69de11b7f77738be", func := "trunnion/trunnionlaw24.CachePlays", spec := "cachePlays", unfollowed := true, recurses := true, named := ["math/bits.deBruijn64tab"], plainKeys := false, apart := false, laid := [("math/bits.deBruijn64tab", laid_math_bits_deBruijn64tab)], narrowed := true }
def CachePlaysUptoSaid : Prop := cachePlaysUptoRow.holds Tryd.pinned (OpenSpec.upto cachePlaysSpec)

end Rows
end Go.Proofs.YtghefhmncpmflaaDoor
