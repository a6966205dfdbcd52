/-
  No cell of these rows narrows 'for every input' (looked for: loops, veiled, ifaces, maps, wideKeys, modest, calm, conditions, laid).
  DERIVED. THE GIVEN ROWS OF THIS SEAT. 6 by the template 'for every input the law returns true; each argument reads behind the call as it read before'; 0 by the template 'total and deterministic' (their statements: YtgpgblidplmchaaTotals.lean).
  GIVEN WITH THE SEED: the statements are not yours to turn. If you find one false, say at which input.
  Laid BY PROGRAM, IN A SANDBOX (cutbox-rows.mjs): the forced cells as the released guide's own fill.sh prints them over the translation 111295610c74232e… (all of the seat's roots in one cut). By AI agents, Wed Nov 11 2026. No macro, syntax, notation, axiom, sorry.
-/
import Derived.Test.YtgpgblidplmchaaChecked
import GoSem.Claim
import GoSem.ClaimJoined
import GoSem.ClaimMapViews
import Derived.JoinedTies
import Derived.KernelRfl
namespace Go.Proofs.Ytgpgblidplmchaa
/- THE CELL 'sum', in the pinned program and in every row, IS THE sha256 OF THE DUMP (.gsa) THAT YtgpgblidplmchaaProg.lean LOADS. Nothing in Lean hashes anything: it is a label: what it is worth is what the hold of that sum in a sandbox is worth. -/
noncomputable def Try.pinned : Pinned := { name := "ytgpgblidplmchaa", sum := "111295610c74232ed7d190b1b7bc746a306bcc975db3f47f99be441c89703358", checked := Try.checked }
namespace Rows
def none {H : Type} : Left H := { results := [], args := [] }

/-- 'cofferlaw20.AuditTampered': WHATEVER THE INPUT: true; the input reads as it did. -/
def auditTamperedSpec : ChangeSpec := { name := "auditTampered", fn := fun _ => fun
  | [d1, d2, d3, d4, d5] => { results := [.lit (.bool true)], args := [d1, d2, d3, d4, d5] }
  | _ => none }
def auditTamperedRow : OpenClaim := { program := "ytgpgblidplmchaa", sum := "111295610c74232ed7d190b1b7bc746a306bcc975db3f47f99be441c89703358", func := "coffer/cofferlaw20.AuditTampered", spec := "auditTampered", apart := false }
def AuditTamperedSaid : Prop := auditTamperedRow.holds Try.pinned (OpenSpec.ofChange auditTamperedSpec)

/-- ITS FALSE NEIGHBOUR: 'it returns false'. Refute it at one input. -/
def auditTamperedWrong : ChangeSpec := { name := "auditTampered", fn := fun _ => fun
  | [d1, d2, d3, d4, d5] => { results := [.lit (.bool false)], args := [d1, d2, d3, d4, d5] }
  | _ => none }
def AuditTamperedWrongFalsely : Prop := auditTamperedRow.holds Try.pinned (OpenSpec.ofChange auditTamperedWrong)

/-- 'cofferlaw20.AuditEntries': WHATEVER THE INPUT: true; the input reads as it did. -/
def auditEntriesSpec : ChangeSpec := { name := "auditEntries", fn := fun _ => fun
  | [d1, d2] => { results := [.lit (.bool true)], args := [d1, d2] }
  | _ => none }
def auditEntriesRow : OpenClaim := { program := "ytgpgblidplmchaa", sum := "111295610c74232ed7d190b1b7bc746a306bcc975db3f47f99be441c89703358", func := "coffer/cofferlaw20.AuditEntries", spec := "auditEntries", apart := false }
def AuditEntriesSaid : Prop := auditEntriesRow.holds Try.pinned (OpenSpec.ofChange auditEntriesSpec)

/-- ITS FALSE NEIGHBOUR: 'it returns false'. Refute it at one input. -/
def auditEntriesWrong : ChangeSpec := { name := "auditEntries", fn := fun _ => fun
  | [d1, d2] => { results := [.lit (.bool false)], args := [d1, d2] }
  | _ => none }
def AuditEntriesWrongFalsely : Prop := auditEntriesRow.holds Try.pinned (OpenSpec.ofChange auditEntriesWrong)

/-- 'cofferlaw20.AuditReads': WHATEVER THE INPUT: true; the input reads as it did. -/
def auditReadsSpec : ChangeSpec := { name := "auditReads", fn := fun _ => fun
  | [d] => { results := [.lit (.bool true)], args := [d] }
  | _ => none }
def auditReadsRow : OpenClaim := { program := "ytgpgblidplmchaa", sum := "111295610c74232ed7d190b1b7bc746a306bcc975db3f47f99be441c89703358", func := "coffer/cofferlaw20.AuditReads", spec := "auditReads", apart := false }
def AuditReadsSaid : Prop := auditReadsRow.holds Try.pinned (OpenSpec.ofChange auditReadsSpec)

/-- ITS FALSE NEIGHBOUR: 'it returns false'. Refute it at one input. -/
def auditReadsWrong : ChangeSpec := { name := "auditReads", fn := fun _ => fun
  | [d] => { results := [.lit (.bool false)], args := [d] }
  | _ => none }
def AuditReadsWrongFalsely : Prop := auditReadsRow.holds Try.pinned (OpenSpec.ofChange auditReadsWrong)

/-- 'cofferlaw20.AuditBack': WHATEVER THE INPUT: true; the input reads as it did. -/
def auditBackSpec : ChangeSpec := { name := "auditBack", fn := fun _ => fun
  | [d1, d2, d3] => { results := [.lit (.bool true)], args := [d1, d2, d3] }
  | _ => none }
def auditBackRow : OpenClaim := { program := "ytgpgblidplmchaa", sum := "111295610c74232ed7d190b1b7bc746a306bcc975db3f47f99be441c89703358", func := "coffer/cofferlaw20.AuditBack", spec := "auditBack", apart := false }
def AuditBackSaid : Prop := auditBackRow.holds Try.pinned (OpenSpec.ofChange auditBackSpec)

/-- ITS FALSE NEIGHBOUR: 'it returns false'. Refute it at one input. -/
def auditBackWrong : ChangeSpec := { name := "auditBack", fn := fun _ => fun
  | [d1, d2, d3] => { results := [.lit (.bool false)], args := [d1, d2, d3] }
  | _ => none }
def AuditBackWrongFalsely : Prop := auditBackRow.holds Try.pinned (OpenSpec.ofChange auditBackWrong)

/-- 'cofferlaw20.AuditChains': WHATEVER THE INPUT: true; the input reads as it did. -/
def auditChainsSpec : ChangeSpec := { name := "auditChains", fn := fun _ => fun
  | [d1, d2, d3] => { results := [.lit (.bool true)], args := [d1, d2, d3] }
  | _ => none }
def auditChainsRow : OpenClaim := { program := "ytgpgblidplmchaa", sum := "111295610c74232ed7d190b1b7bc746a306bcc975db3f47f99be441c89703358", func := "coffer/cofferlaw20.AuditChains", spec := "auditChains", apart := false }
def AuditChainsSaid : Prop := auditChainsRow.holds Try.pinned (OpenSpec.ofChange auditChainsSpec)

/-- ITS FALSE NEIGHBOUR: 'it returns false'. Refute it at one input. -/
def auditChainsWrong : ChangeSpec := { name := "auditChains", fn := fun _ => fun
  | [d1, d2, d3] => { results := [.lit (.bool false)], args := [d1, d2, d3] }
  | _ => none }
def AuditChainsWrongFalsely : Prop := auditChainsRow.holds Try.pinned (OpenSpec.ofChange auditChainsWrong)

/-- 'cofferlaw20.AuditVerifies': WHATEVER THE INPUT: true; the input reads as it did. -/
def auditVerifiesSpec : ChangeSpec := { name := "auditVerifies", fn := fun _ => fun
  | [d1, d2] => { results := [.lit (.bool true)], args := [d1, d2] }
  | _ => none }
def auditVerifiesRow : OpenClaim := { program := "ytgpgblidplmchaa", sum := "111295610c74232ed7d190b1b7bc746a306bcc975db3f47f99be441c89703358", func := "coffer/cofferlaw20.AuditVerifies", spec := "auditVerifies", apart := false }
def AuditVerifiesSaid : Prop := auditVerifiesRow.holds Try.pinned (OpenSpec.ofChange auditVerifiesSpec)

/-- ITS FALSE NEIGHBOUR: 'it returns false'. Refute it at one input. -/
def auditVerifiesWrong : ChangeSpec := { name := "auditVerifies", fn := fun _ => fun
  | [d1, d2] => { results := [.lit (.bool false)], args := [d1, d2] }
  | _ => none }
def AuditVerifiesWrongFalsely : Prop := auditVerifiesRow.holds Try.pinned (OpenSpec.ofChange auditVerifiesWrong)

/- THE SECOND FORM. 'bulk': how many values and letters a reading holds, each counted each time it is reached (what is shared counts as often as it is met; a slice's spare places count too). A statement '..UptoSaid' is the law's where the arguments, and the package variables that the reading takes, are together of bulk at most 1048576: NARROWER than '..Said'. Prove '..Said' where nothing that the law and all that it calls make is longer than what came in: it says more and counts as full. Else prove '..UptoSaid'. A law counts once. -/
mutual
def uptoBulk {H : Type} : DataW H → Nat
  | .lit (.string bytes) => bytes.length + 1
  | .lit _ => 1
  | .nil => 1
  | .ptr d => uptoBulk d + 1
  | .slice elems spare => uptoBulkAll elems + uptoBulkAll spare + 1
  | .agg parts => uptoBulkAll parts + 1
  | .iface _ d => uptoBulk d + 1
  | .map entries => uptoBulkEntries entries + 1
  | .held _ => 1
def uptoBulkAll {H : Type} : List (DataW H) → Nat
  | [] => 0
  | d :: r => uptoBulk d + uptoBulkAll r
def uptoBulkEntries {H : Type} : List (Lit × DataW H) → Nat
  | [] => 0
  | x :: r => uptoBulkEntry x + uptoBulkEntries r
def uptoBulkEntry {H : Type} : Lit × DataW H → Nat
  | (.string bytes, d) => bytes.length + uptoBulk d + 1
  | (_, d) => uptoBulk d + 1
 end
def uptoSmall : (H : Type) → List (DataW H) → Bool := fun _ ds => decide (uptoBulkAll ds ≤ 1048576)
def OpenSpec.upto (s : _root_.Go.ChangeSpec) : _root_.Go.OpenSpec := { _root_.Go.OpenSpec.ofChange s with cond := some uptoSmall }

/-- 'cofferlaw20.AuditTampered', WHERE WHAT IT READS IS OF BULK AT MOST 1048576: true; the input reads as it did. -/
def auditTamperedUptoRow : OpenClaim := { program := "ytgpgblidplmchaa", sum := "111295610c74232ed7d190b1b7bc746a306bcc975db3f47f99be441c89703358", func := "coffer/cofferlaw20.AuditTampered", spec := "auditTampered", apart := false, narrowed := true }
def AuditTamperedUptoSaid : Prop := auditTamperedUptoRow.holds Try.pinned (OpenSpec.upto auditTamperedSpec)

/-- 'cofferlaw20.AuditEntries', WHERE WHAT IT READS IS OF BULK AT MOST 1048576: true; the input reads as it did. -/
def auditEntriesUptoRow : OpenClaim := { program := "ytgpgblidplmchaa", sum := "111295610c74232ed7d190b1b7bc746a306bcc975db3f47f99be441c89703358", func := "coffer/cofferlaw20.AuditEntries", spec := "auditEntries", apart := false, narrowed := true }
def AuditEntriesUptoSaid : Prop := auditEntriesUptoRow.holds Try.pinned (OpenSpec.upto auditEntriesSpec)

/-- 'cofferlaw20.AuditReads', WHERE WHAT IT READS IS OF BULK AT MOST 1048576: true; the input reads as it did. -/
def auditReadsUptoRow : OpenClaim := { program := "ytgpgblidplmchaa", sum := "111295610c74232ed7d190b1b7bc746a306bcc975db3f47f99be441c89703358", func := "coffer/cofferlaw20.AuditReads", spec := "auditReads", apart := false, narrowed := true }
def AuditReadsUptoSaid : Prop := auditReadsUptoRow.holds Try.pinned (OpenSpec.upto auditReadsSpec)

/-- 'cofferlaw20.AuditBack', WHERE WHAT IT READS IS OF BULK AT MOST 1048576: true; the input reads as it did. -/
def auditBackUptoRow : OpenClaim := { program := "ytgpgblidplmchaa", sum := "111295610c74232ed7d190b1b7bc746a306bcc975db3f47f99be441c89703358", func := "coffer/cofferlaw20.AuditBack", spec := "auditBack", apart := false, narrowed := true }
def AuditBackUptoSaid : Prop := auditBackUptoRow.holds Try.pinned (OpenSpec.upto auditBackSpec)

/-- 'cofferlaw20.AuditChains', WHERE WHAT IT READS IS OF BULK AT MOST 1048576: true; the input reads as it did. -/
def auditChainsUptoRow : OpenClaim := { program := "ytgpgblidplmchaa", sum := "111295610c74232ed7d190b1b7bc746a306bcc975db3f47f99be441c89703358", func := "coffer/cofferlaw20.AuditChains", spec := "auditChains", apart := false, narrowed := true }
def AuditChainsUptoSaid : Prop := auditChainsUptoRow.holds Try.pinned (OpenSpec.upto auditChainsSpec)

/-- 'cofferlaw20.AuditVerifies', WHERE WHAT IT READS IS OF BULK AT MOST 1048576: true; the input reads as it did. -/
def auditVerifiesUptoRow : OpenClaim := { program := "ytgpgblidplmchaa", sum := "111295610c74232ed7d190b1b7bc746a306bcc975db3f47f99be441c89703358", func := "coffer/cofferlaw20.AuditVerifies", spec := "auditVerifies", apart := false, narrowed := true }
def AuditVerifiesUptoSaid : Prop := auditVerifiesUptoRow.holds Try.pinned (OpenSpec.upto auditVerifiesSpec)

end Rows
end Go.Proofs.Ytgpgblidplmchaa
