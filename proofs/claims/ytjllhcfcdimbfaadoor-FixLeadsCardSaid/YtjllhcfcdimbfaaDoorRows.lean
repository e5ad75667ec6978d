/-
  NARROWER THAN 'FOR EVERY INPUT', by the rows' own cells (each row's printed sentence says how): FixDoes: laid · FixLeads: laid · FixOnly: laid · FixMoved: laid.
  DERIVED. THE GIVEN ROWS OF THIS SEAT. 4 by the template 'for every input the law returns true; each argument reads behind the call as it read before'; 0 by the template 'total and deterministic' (their statements: YtjllhcfcdimbfaaDoorTotals.lean).
  GIVEN WITH THE SEED: the statements are not yours to turn. If you find one false, say at which input.
  Laid BY PROGRAM, IN A SANDBOX (cutbox-rows.mjs): the forced cells as the released guide's own fill.sh prints them over the translation b7c6c3c806c626fc… (all of the seat's roots in one cut). By AI agents, Wed Nov 11 2026. No macro, syntax, notation, axiom, sorry.
-/
import Derived.Test.YtjllhcfcdimbfaaDoorChecked
import GoSem.Claim
import GoSem.ClaimJoined
import GoSem.ClaimMapViews
import Derived.JoinedTies
import Derived.KernelRfl
namespace Go.Proofs.YtjllhcfcdimbfaaDoor
/- THE CELL 'sum', in the pinned program and in every row, IS THE sha256 OF THE DUMP (.gsa) THAT YtjllhcfcdimbfaaDoorProg.lean LOADS. Nothing in Lean hashes anything: it is a label: what it is worth is what the hold of that sum in a sandbox is worth. -/
noncomputable def Tryd.pinned : Pinned := { name := "ytjllhcfcdimbfaadoor", sum := "b7c6c3c806c626fc3d05c797b81d05e16f5e3a0318fe12deea525d37dcf7756a", checked := Tryd.checked }
namespace Rows
def none {H : Type} : Left H := { results := [], args := [] }

/- WHAT THE LISTED PACKAGE-LEVEL VARIABLES READ AS WHEN THE CALL BEGINS. Each datum BY PROGRAM (the guide's laid-datum.mjs) off the statement by which the dump's own 'gosem.cut.vars' lays the variable. In a bare row this is a premise. The card (YtjllhcfcdimbfaaDoorCards.lean) ties it to the program's text. -/
def laid_cleat_inst_shapes {H : Type} : DataW H := .agg [.lit (.int .i64 0), .lit (.int .i64 1), .lit (.int .i64 1), .lit (.int .i64 1), .lit (.int .i64 2), .lit (.int .i64 2), .lit (.int .i64 2), .lit (.int .i64 2), .lit (.int .i64 3), .lit (.int .i64 3), .lit (.int .i64 3), .lit (.int .i64 3), .lit (.int .i64 4), .lit (.int .i64 4), .lit (.int .i64 4), .lit (.int .i64 4), .lit (.int .i64 5), .lit (.int .i64 5), .lit (.int .i64 5), .lit (.int .i64 5), .lit (.int .i64 6), .lit (.int .i64 6), .lit (.int .i64 7), .lit (.int .i64 7), .lit (.int .i64 8), .lit (.int .i64 8), .lit (.int .i64 9), .lit (.int .i64 10), .lit (.int .i64 10), .lit (.int .i64 11), .lit (.int .i64 11), .lit (.int .i64 12), .lit (.int .i64 9), .lit (.int .i64 9), .lit (.int .i64 13), .lit (.int .i64 13), .lit (.int .i64 13), .lit (.int .i64 14), .lit (.int .i64 15), .lit (.int .i64 16)]
def laid_cleat_code_bases {H : Type} : DataW H := .agg [.lit (.int .u32 0), .lit (.int .u32 3531603968), .lit (.int .u32 2457862144), .lit (.int .u32 4068474880), .lit (.int .u32 2432696320), .lit (.int .u32 3506438144), .lit (.int .u32 2969567232), .lit (.int .u32 4043309056), .lit (.int .u32 2449473536), .lit (.int .u32 2986344448), .lit (.int .u32 3523215360), .lit (.int .u32 4060086272), .lit (.int .u32 2332033024), .lit (.int .u32 3405774848), .lit (.int .u32 2868903936), .lit (.int .u32 3942645760), .lit (.int .u32 2315255808), .lit (.int .u32 2852126720), .lit (.int .u32 3388997632), .lit (.int .u32 3925868544), .lit (.int .u32 2600468480), .lit (.int .u32 2600501248), .lit (.int .u32 4181721088), .lit (.int .u32 4177526784), .lit (.int .u32 960495616), .lit (.int .u32 956301312), .lit (.int .u32 1476395008), .lit (.int .u32 268435456), .lit (.int .u32 2415919104), .lit (.int .u32 335544320), .lit (.int .u32 2483027968), .lit (.int .u32 1409286144), .lit (.int .u32 3019898880), .lit (.int .u32 3036676096), .lit (.int .u32 3592355840), .lit (.int .u32 3594452992), .lit (.int .u32 3596550144), .lit (.int .u32 3556769793), .lit (.int .u32 3573751839), .lit (.int .u32 2592079872)]
def laid_cleat_code_fields {H : Type} : DataW H := .agg [.lit (.int .u32 0), .lit (.int .u32 8388607), .lit (.int .u32 8388607), .lit (.int .u32 8388607), .lit (.int .u32 14680063), .lit (.int .u32 14680063), .lit (.int .u32 2064383), .lit (.int .u32 4194303), .lit (.int .u32 4194303), .lit (.int .u32 16777215), .lit (.int .u32 1627389951), .lit (.int .u32 67108863), .lit (.int .u32 16777199), .lit (.int .u32 992), .lit (.int .u32 2097120), .lit (.int .u32 0), .lit (.int .u32 2094079)]
def laid_cleat_part_fitting {H : Type} : DataW H := .agg [.agg [.lit (.int .i64 0), .lit (.int .i64 0)], .agg [.lit (.int .i64 0), .lit (.int .i64 0)], .agg [.lit (.int .i64 29), .lit (.int .i64 30)], .agg [.lit (.int .i64 31), .lit (.int .i64 33)], .agg [.lit (.int .i64 26), .lit (.int .i64 26)], .agg [.lit (.int .i64 27), .lit (.int .i64 27)], .agg [.lit (.int .i64 28), .lit (.int .i64 28)], .agg [.lit (.int .i64 4), .lit (.int .i64 4)], .agg [.lit (.int .i64 22), .lit (.int .i64 23)], .agg [.lit (.int .i64 24), .lit (.int .i64 25)]]

/-- 'cleatlaw26.FixDoes': WHATEVER THE INPUT: true; the input reads as it did. -/
def fixDoesSpec : ChangeSpec := { name := "fixDoes", fn := fun _ => fun
  | [d1, d2, d3, d4, d5] => { results := [.lit (.bool true)], args := [d1, d2, d3, d4, d5] }
  | _ => none }
def fixDoesRow : OpenClaim := { program := "ytjllhcfcdimbfaadoor", sum := "b7c6c3c806c626fc3d05c797b81d05e16f5e3a0318fe12deea525d37dcf7756a", func := "cleat/cleatlaw26.FixDoes", spec := "fixDoes", unfollowed := true, recurses := true, named := ["cleat/part.fitting", "cleat/code.fields", "cleat/code.bases", "cleat/inst.shapes"], apart := false, laid := [("cleat/inst.shapes", laid_cleat_inst_shapes), ("cleat/code.bases", laid_cleat_code_bases), ("cleat/code.fields", laid_cleat_code_fields), ("cleat/part.fitting", laid_cleat_part_fitting)] }
def FixDoesSaid : Prop := fixDoesRow.holds Tryd.pinned (OpenSpec.ofChange fixDoesSpec)

/-- ITS FALSE NEIGHBOUR: 'it returns false'. Refute it at one input. -/
def fixDoesWrong : ChangeSpec := { name := "fixDoes", fn := fun _ => fun
  | [d1, d2, d3, d4, d5] => { results := [.lit (.bool false)], args := [d1, d2, d3, d4, d5] }
  | _ => none }
def FixDoesWrongFalsely : Prop := fixDoesRow.holds Tryd.pinned (OpenSpec.ofChange fixDoesWrong)

/-- 'cleatlaw26.FixLeads': WHATEVER THE INPUT: true; the input reads as it did. -/
def fixLeadsSpec : ChangeSpec := { name := "fixLeads", fn := fun _ => fun
  | [d1, d2, d3, d4] => { results := [.lit (.bool true)], args := [d1, d2, d3, d4] }
  | _ => none }
def fixLeadsRow : OpenClaim := { program := "ytjllhcfcdimbfaadoor", sum := "b7c6c3c806c626fc3d05c797b81d05e16f5e3a0318fe12deea525d37dcf7756a", func := "cleat/cleatlaw26.FixLeads", spec := "fixLeads", unfollowed := true, recurses := true, named := ["cleat/part.fitting", "cleat/code.fields", "cleat/code.bases", "cleat/inst.shapes"], apart := false, laid := [("cleat/inst.shapes", laid_cleat_inst_shapes), ("cleat/code.bases", laid_cleat_code_bases), ("cleat/code.fields", laid_cleat_code_fields), ("cleat/part.fitting", laid_cleat_part_fitting)] }
def FixLeadsSaid : Prop := fixLeadsRow.holds Tryd.pinned (OpenSpec.ofChange fixLeadsSpec)

/-- ITS FALSE NEIGHBOUR: 'it returns false'. Refute it at one input. -/
def fixLeadsWrong : ChangeSpec := { name := "fixLeads", fn := fun _ => fun
  | [d1, d2, d3, d4] => { results := [.lit (.bool false)], args := [d1, d2, d3, d4] }
  | _ => none }
def FixLeadsWrongFalsely : Prop := fixLeadsRow.holds Tryd.pinned (OpenSpec.ofChange fixLeadsWrong)

/-- 'cleatlaw26.FixOnly': WHATEVER THE INPUT: true; the input reads as it did. -/
def fixOnlySpec : ChangeSpec := { name := "fixOnly", fn := fun _ => fun
  | [d1, d2, d3, d4] => { results := [.lit (.bool true)], args := [d1, d2, d3, d4] }
  | _ => none }
def fixOnlyRow : OpenClaim := { program := "ytjllhcfcdimbfaadoor", sum := "b7c6c3c806c626fc3d05c797b81d05e16f5e3a0318fe12deea525d37dcf7756a", func := "cleat/cleatlaw26.FixOnly", spec := "fixOnly", unfollowed := true, recurses := true, named := ["cleat/part.fitting", "cleat/code.fields", "cleat/code.bases", "cleat/inst.shapes"], apart := false, laid := [("cleat/inst.shapes", laid_cleat_inst_shapes), ("cleat/code.bases", laid_cleat_code_bases), ("cleat/code.fields", laid_cleat_code_fields), ("cleat/part.fitting", laid_cleat_part_fitting)] }
def FixOnlySaid : Prop := fixOnlyRow.holds Tryd.pinned (OpenSpec.ofChange fixOnlySpec)

/-- ITS FALSE NEIGHBOUR: 'it returns false'. Refute it at one input. -/
def fixOnlyWrong : ChangeSpec := { name := "fixOnly", fn := fun _ => fun
  | [d1, d2, d3, d4] => { results := [.lit (.bool false)], args := [d1, d2, d3, d4] }
  | _ => none }
def FixOnlyWrongFalsely : Prop := fixOnlyRow.holds Tryd.pinned (OpenSpec.ofChange fixOnlyWrong)

/-- 'cleatlaw26.FixMoved': WHATEVER THE INPUT: true; the input reads as it did. -/
def fixMovedSpec : ChangeSpec := { name := "fixMoved", fn := fun _ => fun
  | [d1, d2, d3, d4] => { results := [.lit (.bool true)], args := [d1, d2, d3, d4] }
  | _ => none }
def fixMovedRow : OpenClaim := { program := "ytjllhcfcdimbfaadoor", sum := "b7c6c3c806c626fc3d05c797b81d05e16f5e3a0318fe12deea525d37dcf7756a", func := "cleat/cleatlaw26.FixMoved", spec := "fixMoved", unfollowed := true, recurses := true, named := ["cleat/part.fitting", "cleat/code.fields", "cleat/code.bases", "cleat/inst.shapes"], apart := false, laid := [("cleat/inst.shapes", laid_cleat_inst_shapes), ("cleat/code.bases", laid_cleat_code_bases), ("cleat/code.fields", laid_cleat_code_fields), ("cleat/part.fitting", laid_cleat_part_fitting)] }
def FixMovedSaid : Prop := fixMovedRow.holds Tryd.pinned (OpenSpec.ofChange fixMovedSpec)

/-- ITS FALSE NEIGHBOUR: 'it returns false'. Refute it at one input. -/
def fixMovedWrong : ChangeSpec := { name := "fixMoved", fn := fun _ => fun
  | [d1, d2, d3, d4] => { results := [.lit (.bool false)], args := [d1, d2, d3, d4] }
  | _ => none }
def FixMovedWrongFalsely : Prop := fixMovedRow.holds Tryd.pinned (OpenSpec.ofChange fixMovedWrong)

/- THE SECOND FORM. 'bulk': how many values and letters a reading holds, each counted each time it is reached (what is shared counts as often as it is met; a slice's spare places count too). A statement '..UptoSaid' is the law's where the arguments, and the package variables that the reading takes, are together of bulk at most 1048576: NARROWER than '..Said'. Prove '..Said' where nothing that the law and all that it calls make is longer than what came in: it says more and counts as full. Else prove '..UptoSaid'. A law counts once. -/
mutual
def uptoBulk {H : Type} : DataW H → Nat
  | .lit (.string bytes) => bytes.length + 1
  | .lit _ => 1
  | .nil => 1
  | .ptr d => uptoBulk d + 1
  | .slice elems spare => uptoBulkAll elems + uptoBulkAll spare + 1
  | .agg parts => uptoBulkAll parts + 1
  | .iface _ d => uptoBulk d + 1
  | .map entries => uptoBulkEntries entries + 1
  | .held _ => 1
def uptoBulkAll {H : Type} : List (DataW H) → Nat
  | [] => 0
  | d :: r => uptoBulk d + uptoBulkAll r
def uptoBulkEntries {H : Type} : List (Lit × DataW H) → Nat
  | [] => 0
  | x :: r => uptoBulkEntry x + uptoBulkEntries r
def uptoBulkEntry {H : Type} : Lit × DataW H → Nat
  | (.string bytes, d) => bytes.length + uptoBulk d + 1
  | (_, d) => uptoBulk d + 1
 end
def uptoSmall : (H : Type) → List (DataW H) → Bool := fun _ ds => decide (uptoBulkAll ds ≤ 1048576)
def OpenSpec.upto (s : _root_.Go.ChangeSpec) : _root_.Go.OpenSpec := { _root_.Go.OpenSpec.ofChange s with cond := some uptoSmall }

/-- 'cleatlaw26.FixDoes', WHERE WHAT IT READS IS OF BULK AT MOST 1048576: true; the input reads as it did. -/
def fixDoesUptoRow : OpenClaim := { program := "ytjllhcfcdimbfaadoor", sum := "b7c6c3c806c626fc3d05c797b81d05e16f5e3a0318fe12deea525d37dcf7756a", func := "cleat/cleatlaw26.FixDoes", spec := "fixDoes", unfollowed := true, recurses := true, named := ["cleat/part.fitting", "cleat/code.fields", "cleat/code.bases", "cleat/inst.shapes"], apart := false, laid := [("cleat/inst.shapes", laid_cleat_inst_shapes), ("cleat/code.bases", laid_cleat_code_bases), ("cleat/code.fields", laid_cleat_code_fields), ("cleat/part.fitting", laid_cleat_part_fitting)], narrowed := true }
def FixDoesUptoSaid : Prop := fixDoesUptoRow.holds Tryd.pinned (OpenSpec.upto fixDoesSpec)

/-- 'cleatlaw26.FixLeads', WHERE WHAT IT READS IS OF BULK AT MOST 1048576: true; the input reads as it did. -/
def fixLeadsUptoRow : OpenClaim := { program := "ytjllhcfcdimbfaadoor", sum := "b7c6c3c806c626fc3d05c797b81d05e16f5e3a0318fe12deea525d37dcf7756a", func := "cleat/cleatlaw26.FixLeads", spec := "fixLeads", unfollowed := true, recurses := true, named := ["cleat/part.fitting", "cleat/code.fields", "cleat/code.bases", "cleat/inst.shapes"], apart := false, laid := [("cleat/inst.shapes", laid_cleat_inst_shapes), ("cleat/code.bases", laid_cleat_code_bases), ("cleat/code.fields", laid_cleat_code_fields), ("cleat/part.fitting", laid_cleat_part_fitting)], narrowed := true }
def FixLeadsUptoSaid : Prop := fixLeadsUptoRow.holds Tryd.pinned (OpenSpec.upto fixLeadsSpec)

/-- 'cleatlaw26.FixOnly', WHERE WHAT IT READS IS OF BULK AT MOST 1048576: true; the input reads as it did. -/
def fixOnlyUptoRow : OpenClaim := { program := "ytjllhcfcdimbfaadoor", sum := "b7c6c3c806c626fc3d05c797b81d05e16f5e3a0318fe12deea525d37dcf7756a", func := "cleat/cleatlaw26.FixOnly", spec := "fixOnly", unfollowed := true, recurses := true, named := ["cleat/part.fitting", "cleat/code.fields", "cleat/code.bases", "cleat/inst.shapes"], apart := false, laid := [("cleat/inst.shapes", laid_cleat_inst_shapes), ("cleat/code.bases", laid_cleat_code_bases), ("cleat/code.fields", laid_cleat_code_fields), ("cleat/part.fitting", laid_cleat_part_fitting)], narrowed := true }
def FixOnlyUptoSaid : Prop := fixOnlyUptoRow.holds Tryd.pinned (OpenSpec.upto fixOnlySpec)

/-- 'cleatlaw26.FixMoved', WHERE WHAT IT READS IS OF BULK AT MOST 1048576: true; the input reads as it did. -/
def fixMovedUptoRow : OpenClaim := { program := "ytjllhcfcdimbfaadoor", sum := "b7c6c3c806c626fc3d05c797b81d05e16f5e3a0318fe12deea525d37dcf7756a", func := "cleat/cleatlaw26.FixMoved", spec := "fixMoved", unfollowed := true, recurses := true, named := ["cleat/part.fitting", "cleat/code.fields", "cleat/code.bases", "cleat/inst.shapes"], apart := false, laid := [("cleat/inst.shapes", laid_cleat_inst_shapes), ("cleat/code.bases", laid_cleat_code_bases), ("cleat/code.fields", laid_cleat_code_fields), ("cleat/part.fitting", laid_cleat_part_fitting)], narrowed := true }
def FixMovedUptoSaid : Prop := fixMovedUptoRow.holds Tryd.pinned (OpenSpec.upto fixMovedSpec)

end Rows
end Go.Proofs.YtjllhcfcdimbfaaDoor
