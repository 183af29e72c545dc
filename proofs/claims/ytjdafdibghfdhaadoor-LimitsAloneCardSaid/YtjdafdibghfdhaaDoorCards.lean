/-
  DERIVED. GIVEN WITH THE SEED: THE CARDS: each row of YtjdafdibghfdhaaDoorRows.lean that lists a variable, with what it lists TIED to the program's text (the seventh form; the later family's looks); each row that meets fmt, with fmt's text TOLD by the authors' own Lean function (tested against real Go, not proved from fmt's source: count such statements apart). THE CARD IS WHAT COUNTS. Prove the row's statement (the work); the ties are given (YtjdafdibghfdhaaDoorTie.lean); close each card by the builder's one call (the guide's Derived/Test/ToyasCard.lean, 'card_holds'). Laid BY PROGRAM, IN A SANDBOX (cutbox-door.mjs). By AI agents, Wed Nov 11 2026. No macro, syntax, notation, axiom, sorry.
-/
import Derived.Test.YtjdafdibghfdhaaDoorRows
import GoSem.ClaimSeven
namespace Go.Proofs.YtjdafdibghfdhaaDoor
namespace Rows

/-- THE TIED CARD OF 'synopticlaw14.LimitsClean'. -/
def limitsCleanCard : Claim7 := { stood := { row := limitsCleanRow, standIns := [], harness := (true, "c2625ac753d2440efe0dd4814e66d2c859911d77f0e59ba22e775130c70d4d41"), looks := false }, kinds := [], alts := [], laidByText := true, laidKinds := [.data], laidTests := true, laidLooks := .later }
def LimitsCleanCardSaid : Prop := Claim7.holds Tryd.pinned (.plain (OpenSpec.ofChange limitsCleanSpec)) limitsCleanCard

/-- THE TIED CARD OF 'synopticlaw14.LimitsNarrow'. -/
def limitsNarrowCard : Claim7 := { stood := { row := limitsNarrowRow, standIns := [], harness := (true, "c2625ac753d2440efe0dd4814e66d2c859911d77f0e59ba22e775130c70d4d41"), looks := false }, kinds := [], alts := [], laidByText := true, laidKinds := [.data], laidTests := true, laidLooks := .later }
def LimitsNarrowCardSaid : Prop := Claim7.holds Tryd.pinned (.plain (OpenSpec.ofChange limitsNarrowSpec)) limitsNarrowCard

/-- THE TIED CARD OF 'synopticlaw14.LimitsAlone'. -/
def limitsAloneCard : Claim7 := { stood := { row := limitsAloneRow, standIns := [], harness := (true, "c2625ac753d2440efe0dd4814e66d2c859911d77f0e59ba22e775130c70d4d41"), looks := false }, kinds := [], alts := [], laidByText := true, laidKinds := [.data], laidTests := true, laidLooks := .later }
def LimitsAloneCardSaid : Prop := Claim7.holds Tryd.pinned (.plain (OpenSpec.ofChange limitsAloneSpec)) limitsAloneCard

/-- THE SECOND FORM's CARD OF 'synopticlaw14.LimitsClean'. -/
def limitsCleanUptoCard : Claim7 := { stood := { row := limitsCleanUptoRow, standIns := [], harness := (true, "c2625ac753d2440efe0dd4814e66d2c859911d77f0e59ba22e775130c70d4d41"), looks := false }, kinds := [], alts := [], laidByText := true, laidKinds := [.data], laidTests := true, laidLooks := .later }
def LimitsCleanUptoCardSaid : Prop := Claim7.holds Tryd.pinned (.plain (OpenSpec.upto limitsCleanSpec)) limitsCleanUptoCard

/-- THE SECOND FORM's CARD OF 'synopticlaw14.LimitsNarrow'. -/
def limitsNarrowUptoCard : Claim7 := { stood := { row := limitsNarrowUptoRow, standIns := [], harness := (true, "c2625ac753d2440efe0dd4814e66d2c859911d77f0e59ba22e775130c70d4d41"), looks := false }, kinds := [], alts := [], laidByText := true, laidKinds := [.data], laidTests := true, laidLooks := .later }
def LimitsNarrowUptoCardSaid : Prop := Claim7.holds Tryd.pinned (.plain (OpenSpec.upto limitsNarrowSpec)) limitsNarrowUptoCard

/-- THE SECOND FORM's CARD OF 'synopticlaw14.LimitsAlone'. -/
def limitsAloneUptoCard : Claim7 := { stood := { row := limitsAloneUptoRow, standIns := [], harness := (true, "c2625ac753d2440efe0dd4814e66d2c859911d77f0e59ba22e775130c70d4d41"), looks := false }, kinds := [], alts := [], laidByText := true, laidKinds := [.data], laidTests := true, laidLooks := .later }
def LimitsAloneUptoCardSaid : Prop := Claim7.holds Tryd.pinned (.plain (OpenSpec.upto limitsAloneSpec)) limitsAloneUptoCard
end Rows
end Go.Proofs.YtjdafdibghfdhaaDoor
