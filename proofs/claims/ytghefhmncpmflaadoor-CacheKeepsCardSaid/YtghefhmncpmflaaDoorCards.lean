/-
  DERIVED. GIVEN WITH THE SEED: THE CARDS: each row of YtghefhmncpmflaaDoorRows.lean that lists a variable, with what it lists TIED to the program's text (the seventh form; the later family's looks); each row that meets fmt, with fmt's text TOLD by the authors' own Lean function (tested against real Go, not proved from fmt's source: count such statements apart). THE CARD IS WHAT COUNTS. Prove the row's statement (the work); the ties are given (YtghefhmncpmflaaDoorTie.lean); close each card by the builder's one call (the guide's Derived/Test/ToyasCard.lean, 'card_holds'). Laid BY PROGRAM, IN A SANDBOX (cutbox-door.mjs). By AI agents, Wed Nov 11 2026. No macro, syntax, notation, axiom, sorry.
-/
import Derived.Test.YtghefhmncpmflaaDoorRows
import GoSem.ClaimSeven
namespace Go.Proofs.YtghefhmncpmflaaDoor
namespace Rows

/-- THE TIED CARD OF 'trunnionlaw25.PlanWays'. -/
def planWaysCard : Claim7 := { stood := { row := planWaysRow, standIns := [], harness := (true, "e2e1f74de582c212aac5caf02d1ee2ed50b5352eb1b6473a6e9583b83eb6700e"), looks := false }, kinds := [], alts := [], laidByText := true, laidKinds := [.data], laidTests := true, laidLooks := .later }
def PlanWaysCardSaid : Prop := Claim7.holds Tryd.pinned (.plain (OpenSpec.ofChange planWaysSpec)) planWaysCard

/-- THE TIED CARD OF 'trunnionlaw25.PlanLeast'. -/
def planLeastCard : Claim7 := { stood := { row := planLeastRow, standIns := [], harness := (true, "e2e1f74de582c212aac5caf02d1ee2ed50b5352eb1b6473a6e9583b83eb6700e"), looks := false }, kinds := [], alts := [], laidByText := true, laidKinds := [.data], laidTests := true, laidLooks := .later }
def PlanLeastCardSaid : Prop := Claim7.holds Tryd.pinned (.plain (OpenSpec.ofChange planLeastSpec)) planLeastCard

/-- THE TIED CARD OF 'trunnionlaw24.CacheOld'. -/
def cacheOldCard : Claim7 := { stood := { row := cacheOldRow, standIns := [], harness := (true, "e2e1f74de582c212aac5caf02d1ee2ed50b5352eb1b6473a6e9583b83eb6700e"), looks := false }, kinds := [], alts := [], laidByText := true, laidKinds := [.data], laidTests := true, laidLooks := .later }
def CacheOldCardSaid : Prop := Claim7.holds Tryd.pinned (.plain (OpenSpec.ofChange cacheOldSpec)) cacheOldCard

/-- THE TIED CARD OF 'trunnionlaw24.CacheKeeps'. -/
def cacheKeepsCard : Claim7 := { stood := { row := cacheKeepsRow, standIns := [], harness := (true, "e2e1f74de582c212aac5caf02d1ee2ed50b5352eb1b6473a6e9583b83eb6700e"), looks := false }, kinds := [], alts := [], laidByText := true, laidKinds := [.data], laidTests := true, laidLooks := .later }
def CacheKeepsCardSaid : Prop := Claim7.holds Tryd.pinned (.plain (OpenSpec.ofChange cacheKeepsSpec)) cacheKeepsCard

/-- THE TIED CARD OF 'trunnionlaw24.CacheClean'. -/
def cacheCleanCard : Claim7 := { stood := { row := cacheCleanRow, standIns := [], harness := (true, "e2e1f74de582c212aac5caf02d1ee2ed50b5352eb1b6473a6e9583b83eb6700e"), looks := false }, kinds := [], alts := [], laidByText := true, laidKinds := [.data], laidTests := true, laidLooks := .later }
def CacheCleanCardSaid : Prop := Claim7.holds Tryd.pinned (.plain (OpenSpec.ofChange cacheCleanSpec)) cacheCleanCard

/-- THE TIED CARD OF 'trunnionlaw24.CachePlays'. -/
def cachePlaysCard : Claim7 := { stood := { row := cachePlaysRow, standIns := [], harness := (true, "e2e1f74de582c212aac5caf02d1ee2ed50b5352eb1b6473a6e9583b83eb6700e"), looks := false }, kinds := [], alts := [], laidByText := true, laidKinds := [.data], laidTests := true, laidLooks := .later }
def CachePlaysCardSaid : Prop := Claim7.holds Tryd.pinned (.plain (OpenSpec.ofChange cachePlaysSpec)) cachePlaysCard

/-- THE SECOND FORM's CARD OF 'trunnionlaw25.PlanWays'. -/
def planWaysUptoCard : Claim7 := { stood := { row := planWaysUptoRow, standIns := [], harness := (true, "e2e1f74de582c212aac5caf02d1ee2ed50b5352eb1b6473a6e9583b83eb6700e"), looks := false }, kinds := [], alts := [], laidByText := true, laidKinds := [.data], laidTests := true, laidLooks := .later }
def PlanWaysUptoCardSaid : Prop := Claim7.holds Tryd.pinned (.plain (OpenSpec.upto planWaysSpec)) planWaysUptoCard

/-- THE SECOND FORM's CARD OF 'trunnionlaw25.PlanLeast'. -/
def planLeastUptoCard : Claim7 := { stood := { row := planLeastUptoRow, standIns := [], harness := (true, "e2e1f74de582c212aac5caf02d1ee2ed50b5352eb1b6473a6e9583b83eb6700e"), looks := false }, kinds := [], alts := [], laidByText := true, laidKinds := [.data], laidTests := true, laidLooks := .later }
def PlanLeastUptoCardSaid : Prop := Claim7.holds Tryd.pinned (.plain (OpenSpec.upto planLeastSpec)) planLeastUptoCard

/-- THE SECOND FORM's CARD OF 'trunnionlaw24.CacheOld'. -/
def cacheOldUptoCard : Claim7 := { stood := { row := cacheOldUptoRow, standIns := [], harness := (true, "e2e1f74de582c212aac5caf02d1ee2ed50b5352eb1b6473a6e9583b83eb6700e"), looks := false }, kinds := [], alts := [], laidByText := true, laidKinds := [.data], laidTests := true, laidLooks := .later }
def CacheOldUptoCardSaid : Prop := Claim7.holds Tryd.pinned (.plain (OpenSpec.upto cacheOldSpec)) cacheOldUptoCard

/-- THE SECOND FORM's CARD OF 'trunnionlaw24.CacheKeeps'. -/
def cacheKeepsUptoCard : Claim7 := { stood := { row := cacheKeepsUptoRow, standIns := [], harness := (true, "e2e1f74de582c212aac5caf02d1ee2ed50b5352eb1b6473a6e9583b83eb6700e"), looks := false }, kinds := [], alts := [], laidByText := true, laidKinds := [.data], laidTests := true, laidLooks := .later }
def CacheKeepsUptoCardSaid : Prop := Claim7.holds Tryd.pinned (.plain (OpenSpec.upto cacheKeepsSpec)) cacheKeepsUptoCard

/-- THE SECOND FORM's CARD OF 'trunnionlaw24.CacheClean'. -/
def cacheCleanUptoCard : Claim7 := { stood := { row := cacheCleanUptoRow, standIns := [], harness := (true, "e2e1f74de582c212aac5caf02d1ee2ed50b5352eb1b6473a6e9583b83eb6700e"), looks := false }, kinds := [], alts := [], laidByText := true, laidKinds := [.data], laidTests := true, laidLooks := .later }
def CacheCleanUptoCardSaid : Prop := Claim7.holds Tryd.pinned (.plain (OpenSpec.upto cacheCleanSpec)) cacheCleanUptoCard

/-- THE SECOND FORM's CARD OF 'trunnionlaw24.CachePlays'. -/
def cachePlaysUptoCard : Claim7 := { stood := { row := cachePlaysUptoRow, standIns := [], harness := (true, "e2e1f74de582c212aac5caf02d1ee2ed50b5352eb1b6473a6e9583b83eb6700e"), looks := false }, kinds := [], alts := [], laidByText := true, laidKinds := [.data], laidTests := true, laidLooks := .later }
def CachePlaysUptoCardSaid : Prop := Claim7.holds Tryd.pinned (.plain (OpenSpec.upto cachePlaysSpec)) cachePlaysUptoCard
end Rows
end Go.Proofs.YtghefhmncpmflaaDoor
