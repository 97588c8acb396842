/-
  No cell of these rows narrows 'for every input' (looked for: loops, veiled, ifaces, maps, wideKeys, modest, calm, conditions, laid).
  DERIVED. THE GIVEN ROWS OF THIS SEAT. 6 by the template 'for every input the law returns true; each argument reads behind the call as it read before'; 0 by the template 'total and deterministic' (their statements: YtlenaaghkiedbaaTotals.lean).
  GIVEN WITH THE SEED: the statements are not yours to turn. If you find one false, say at which input.
  Laid BY PROGRAM, IN A SANDBOX (cutbox-rows.mjs): the forced cells as the released guide's own fill.sh prints them over the translation 04d56eb949bac4b4… (all of the seat's roots in one cut). By AI agents, Wed Nov 11 2026. No macro, syntax, notation, axiom, sorry.
-/
import Derived.Test.YtlenaaghkiedbaaChecked
import GoSem.Claim
import GoSem.ClaimJoined
import GoSem.ClaimMapViews
import Derived.JoinedTies
import Derived.KernelRfl
namespace Go.Proofs.Ytlenaaghkiedbaa
/- THE CELL 'sum', in the pinned program and in every row, IS THE sha256 OF THE DUMP (.gsa) THAT YtlenaaghkiedbaaProg.lean LOADS. Nothing in Lean hashes anything: it is a label: what it is worth is what the hold of that sum in a sandbox is worth. -/
noncomputable def Try.pinned : Pinned := { name := "ytlenaaghkiedbaa", sum := "04d56eb949bac4b4a7aa3f3b65a909d9720869edadbba5c0f37d59ead50c83d0", checked := Try.checked }
namespace Rows
def none {H : Type} : Left H := { results := [], args := [] }

/-- 'noonbelllaw16.ResultLinks': WHATEVER THE INPUT: true; the input reads as it did. -/
def resultLinksSpec : ChangeSpec := { name := "resultLinks", fn := fun _ => fun
  | [d1, d2, d3] => { results := [.lit (.bool true)], args := [d1, d2, d3] }
  | _ => none }
def resultLinksRow : OpenClaim := { program := "ytlenaaghkiedbaa", sum := "04d56eb949bac4b4a7aa3f3b65a909d9720869edadbba5c0f37d59ead50c83d0", func := "noonbell/noonbelllaw16.ResultLinks", spec := "resultLinks", plainKeys := false, apart := false }
def ResultLinksSaid : Prop := resultLinksRow.holds Try.pinned (OpenSpec.ofChange resultLinksSpec)

/-- ITS FALSE NEIGHBOUR: 'it returns false'. Refute it at one input. -/
def resultLinksWrong : ChangeSpec := { name := "resultLinks", fn := fun _ => fun
  | [d1, d2, d3] => { results := [.lit (.bool false)], args := [d1, d2, d3] }
  | _ => none }
def ResultLinksWrongFalsely : Prop := resultLinksRow.holds Try.pinned (OpenSpec.ofChange resultLinksWrong)

/-- 'noonbelllaw15.MarketBuilds': WHATEVER THE INPUT: true; the input reads as it did. -/
def marketBuildsSpec : ChangeSpec := { name := "marketBuilds", fn := fun _ => fun
  | [d1, d2, d3, d4] => { results := [.lit (.bool true)], args := [d1, d2, d3, d4] }
  | _ => none }
def marketBuildsRow : OpenClaim := { program := "ytlenaaghkiedbaa", sum := "04d56eb949bac4b4a7aa3f3b65a909d9720869edadbba5c0f37d59ead50c83d0", func := "noonbell/noonbelllaw15.MarketBuilds", spec := "marketBuilds", unfollowed := true, recurses := true, plainKeys := false, apart := false }
def MarketBuildsSaid : Prop := marketBuildsRow.holds Try.pinned (OpenSpec.ofChange marketBuildsSpec)

/-- ITS FALSE NEIGHBOUR: 'it returns false'. Refute it at one input. -/
def marketBuildsWrong : ChangeSpec := { name := "marketBuilds", fn := fun _ => fun
  | [d1, d2, d3, d4] => { results := [.lit (.bool false)], args := [d1, d2, d3, d4] }
  | _ => none }
def MarketBuildsWrongFalsely : Prop := marketBuildsRow.holds Try.pinned (OpenSpec.ofChange marketBuildsWrong)

/-- 'noonbelllaw10.BookQuota': WHATEVER THE INPUT: true; the input reads as it did. -/
def bookQuotaSpec : ChangeSpec := { name := "bookQuota", fn := fun _ => fun
  | [d1, d2] => { results := [.lit (.bool true)], args := [d1, d2] }
  | _ => none }
def bookQuotaRow : OpenClaim := { program := "ytlenaaghkiedbaa", sum := "04d56eb949bac4b4a7aa3f3b65a909d9720869edadbba5c0f37d59ead50c83d0", func := "noonbell/noonbelllaw10.BookQuota", spec := "bookQuota", plainKeys := false, apart := false }
def BookQuotaSaid : Prop := bookQuotaRow.holds Try.pinned (OpenSpec.ofChange bookQuotaSpec)

/-- ITS FALSE NEIGHBOUR: 'it returns false'. Refute it at one input. -/
def bookQuotaWrong : ChangeSpec := { name := "bookQuota", fn := fun _ => fun
  | [d1, d2] => { results := [.lit (.bool false)], args := [d1, d2] }
  | _ => none }
def BookQuotaWrongFalsely : Prop := bookQuotaRow.holds Try.pinned (OpenSpec.ofChange bookQuotaWrong)

/-- 'noonbelllaw10.BookLocks': WHATEVER THE INPUT: true; the input reads as it did. -/
def bookLocksSpec : ChangeSpec := { name := "bookLocks", fn := fun _ => fun
  | [d1, d2, d3, d4] => { results := [.lit (.bool true)], args := [d1, d2, d3, d4] }
  | _ => none }
def bookLocksRow : OpenClaim := { program := "ytlenaaghkiedbaa", sum := "04d56eb949bac4b4a7aa3f3b65a909d9720869edadbba5c0f37d59ead50c83d0", func := "noonbell/noonbelllaw10.BookLocks", spec := "bookLocks", unfollowed := true, recurses := true, plainKeys := false, apart := false }
def BookLocksSaid : Prop := bookLocksRow.holds Try.pinned (OpenSpec.ofChange bookLocksSpec)

/-- ITS FALSE NEIGHBOUR: 'it returns false'. Refute it at one input. -/
def bookLocksWrong : ChangeSpec := { name := "bookLocks", fn := fun _ => fun
  | [d1, d2, d3, d4] => { results := [.lit (.bool false)], args := [d1, d2, d3, d4] }
  | _ => none }
def BookLocksWrongFalsely : Prop := bookLocksRow.holds Try.pinned (OpenSpec.ofChange bookLocksWrong)

/-- 'noonbelllaw10.BookOrder': WHATEVER THE INPUT: true; the input reads as it did. -/
def bookOrderSpec : ChangeSpec := { name := "bookOrder", fn := fun _ => fun
  | [d1, d2, d3] => { results := [.lit (.bool true)], args := [d1, d2, d3] }
  | _ => none }
def bookOrderRow : OpenClaim := { program := "ytlenaaghkiedbaa", sum := "04d56eb949bac4b4a7aa3f3b65a909d9720869edadbba5c0f37d59ead50c83d0", func := "noonbell/noonbelllaw10.BookOrder", spec := "bookOrder", unfollowed := true, recurses := true, plainKeys := false, apart := false }
def BookOrderSaid : Prop := bookOrderRow.holds Try.pinned (OpenSpec.ofChange bookOrderSpec)

/-- ITS FALSE NEIGHBOUR: 'it returns false'. Refute it at one input. -/
def bookOrderWrong : ChangeSpec := { name := "bookOrder", fn := fun _ => fun
  | [d1, d2, d3] => { results := [.lit (.bool false)], args := [d1, d2, d3] }
  | _ => none }
def BookOrderWrongFalsely : Prop := bookOrderRow.holds Try.pinned (OpenSpec.ofChange bookOrderWrong)

/-- 'noonbelllaw10.BookOwes': WHATEVER THE INPUT: true; the input reads as it did. -/
def bookOwesSpec : ChangeSpec := { name := "bookOwes", fn := fun _ => fun
  | [d] => { results := [.lit (.bool true)], args := [d] }
  | _ => none }
def bookOwesRow : OpenClaim := { program := "ytlenaaghkiedbaa", sum := "04d56eb949bac4b4a7aa3f3b65a909d9720869edadbba5c0f37d59ead50c83d0", func := "noonbell/noonbelllaw10.BookOwes", spec := "bookOwes", unfollowed := true, recurses := true, plainKeys := false, apart := false }
def BookOwesSaid : Prop := bookOwesRow.holds Try.pinned (OpenSpec.ofChange bookOwesSpec)

/-- ITS FALSE NEIGHBOUR: 'it returns false'. Refute it at one input. -/
def bookOwesWrong : ChangeSpec := { name := "bookOwes", fn := fun _ => fun
  | [d] => { results := [.lit (.bool false)], args := [d] }
  | _ => none }
def BookOwesWrongFalsely : Prop := bookOwesRow.holds Try.pinned (OpenSpec.ofChange bookOwesWrong)

/- THE SECOND FORM. 'bulk': how many values and letters a reading holds, each counted each time it is reached (what is shared counts as often as it is met; a slice's spare places count too). A statement '..UptoSaid' is the law's where the arguments, and the package variables that the reading takes, are together of bulk at most 1048576: NARROWER than '..Said'. Prove '..Said' where nothing that the law and all that it calls make is longer than what came in: it says more and counts as full. Else prove '..UptoSaid'. A law counts once. -/
mutual
def uptoBulk {H : Type} : DataW H → Nat
  | .lit (.string bytes) => bytes.length + 1
  | .lit _ => 1
  | .nil => 1
  | .ptr d => uptoBulk d + 1
  | .slice elems spare => uptoBulkAll elems + uptoBulkAll spare + 1
  | .agg parts => uptoBulkAll parts + 1
  | .iface _ d => uptoBulk d + 1
  | .map entries => uptoBulkEntries entries + 1
  | .held _ => 1
def uptoBulkAll {H : Type} : List (DataW H) → Nat
  | [] => 0
  | d :: r => uptoBulk d + uptoBulkAll r
def uptoBulkEntries {H : Type} : List (Lit × DataW H) → Nat
  | [] => 0
  | x :: r => uptoBulkEntry x + uptoBulkEntries r
def uptoBulkEntry {H : Type} : Lit × DataW H → Nat
  | (.string bytes, d) => bytes.length + uptoBulk d + 1
  | (_, d) => uptoBulk d + 1
 end
def uptoSmall : (H : Type) → List (DataW H) → Bool := fun _ ds => decide (uptoBulkAll ds ≤ 1048576)
def OpenSpec.upto (s : _root_.Go.ChangeSpec) : _root_.Go.OpenSpec := { _root_.Go.OpenSpec.ofChange s with cond := some uptoSmall }

/-- 'noonbelllaw16.ResultLinks', WHERE WHAT IT READS IS OF BULK AT MOST 1048576: true; the input reads as it did. -/
def resultLinksUptoRow : OpenClaim := { program := "ytlenaaghkiedbaa", sum := "04d56eb949bac4b4a7aa3f3b65a909d9720869edadbba5c0f37d59ead50c83d0", func := "noonbell/noonbelllaw16.ResultLinks", spec := "resultLinks", plainKeys := false, apart := false, narrowed := true }
def ResultLinksUptoSaid : Prop := resultLinksUptoRow.holds Try.pinned (OpenSpec.upto resultLinksSpec)

/-- 'noonbelllaw15.MarketBuilds', WHERE WHAT IT READS IS OF BULK AT MOST 1048576: true; the input reads as it did. -/
def marketBuildsUptoRow : OpenClaim := { program := "ytlenaaghkiedbaa", sum := "04d56eb949bac4b4a7aa3f3b65a909d9720869edadbba5c0f37d59ead50c83d0", func := "noonbell/noonbelllaw15.MarketBuilds", spec := "marketBuilds", unfollowed := true, recurses := true, plainKeys := false, apart := false, narrowed := true }
def MarketBuildsUptoSaid : Prop := marketBuildsUptoRow.holds Try.pinned (OpenSpec.upto marketBuildsSpec)

/-- 'noonbelllaw10.BookQuota', WHERE WHAT IT READS IS OF BULK AT MOST 1048576: true; the input reads as it did. -/
def bookQuotaUptoRow : OpenClaim := { program := "ytlenaaghkiedbaa", sum := "04d56eb949bac4b4a7aa3f3b65a909d9720869edadbba5c0f37d59ead50c83d0", func := "noonbell/noonbelllaw10.BookQuota", spec := "bookQuota", plainKeys := false, apart := false, narrowed := true }
def BookQuotaUptoSaid : Prop := bookQuotaUptoRow.holds Try.pinned (OpenSpec.upto bookQuotaSpec)

/-- 'noonbelllaw10.BookLocks', WHERE WHAT IT READS IS OF BULK AT MOST 1048576: true; the input reads as it did. -/
def bookLocksUptoRow : OpenClaim := { program := "ytlenaaghkiedbaa", sum := "04d56eb949bac4b4a7aa3f3b65a909d9720869edadbba5c0f37d59ead50c83d0", func := "noonbell/noonbelllaw10.BookLocks", spec := "bookLocks", unfollowed := true, recurses := true, plainKeys := false, apart := false, narrowed := true }
def BookLocksUptoSaid : Prop := bookLocksUptoRow.holds Try.pinned (OpenSpec.upto bookLocksSpec)

/-- 'noonbelllaw10.BookOrder', WHERE WHAT IT READS IS OF BULK AT MOST 1048576: true; the input reads as it did. -/
def bookOrderUptoRow : OpenClaim := { program := "ytlenaaghkiedbaa", sum := "04d56eb949bac4b4a7aa3f3b65a909d9720869edadbba5c0f37d59ead50c83d0", func := "noonbell/noonbelllaw10.BookOrder", spec := "bookOrder", unfollowed := true, recurses := true, plainKeys := false, apart := false, narrowed := true }
def BookOrderUptoSaid : Prop := bookOrderUptoRow.holds Try.pinned (OpenSpec.upto bookOrderSpec)

/-- 'noonbelllaw10.BookOwes', WHERE WHAT IT READS IS OF BULK AT MOST 1048576: true; the input reads as it did. -/
def bookOwesUptoRow : OpenClaim := { program := "ytlenaaghkiedbaa", sum := "04d56eb949bac4b4a7aa3f3b65a909d9720869edadbba5c0f37d59ead50c83d0", func := "noonbell/noonbelllaw10.BookOwes", spec := "bookOwes", unfollowed := true, recurses := true, plainKeys := false, apart := false, narrowed := true }
def BookOwesUptoSaid : Prop := bookOwesUptoRow.holds Try.pinned (OpenSpec.upto bookOwesSpec)

end Rows
end Go.Proofs.Ytlenaaghkiedbaa
