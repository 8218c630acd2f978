/-
  No cell of these rows narrows 'for every input' (looked for: loops, veiled, ifaces, maps, wideKeys, modest, calm, conditions, laid).
  DERIVED. THE GIVEN ROWS OF THIS SEAT. 7 by the template 'for every input the law returns true; each argument reads behind the call as it read before'; 0 by the template 'total and deterministic' (their statements: YtcddeopioaagoaaGreatTotals.lean).
  GIVEN WITH THE SEED: the statements are not yours to turn. If you find one false, say at which input.
  Laid BY PROGRAM, IN A SANDBOX (cutbox-rows.mjs): the forced cells as the released guide's own fill.sh prints them over the translation ef16cc0619a611aa… (all of the seat's roots in one cut). By AI agents, Wed Nov 11 2026. No macro, syntax, notation, axiom, sorry.
-/
import Derived.Test.YtcddeopioaagoaaGreatChecked
import GoSem.Claim
import GoSem.ClaimJoined
import GoSem.ClaimMapViews
import Derived.JoinedTies
import Derived.KernelRfl
namespace Go.Proofs.YtcddeopioaagoaaGreat
/- THE CELL 'sum', in the pinned program and in every row, IS THE sha256 OF THE DUMP (.gsa) THAT YtcddeopioaagoaaGreatProg.lean LOADS. Nothing in Lean hashes anything: it is a label: what it is worth is what the hold of that sum in a sandbox is worth. -/
noncomputable def Tryz.pinned : Pinned := { name := "ytcddeopioaagoaagreat", sum := "ef16cc0619a611aa2a7779e973acfbc49fbafe43c89b851a0caa9a1049135579", checked := Tryz.checked }
namespace Rows
def none {H : Type} : Left H := { results := [], args := [] }

/-- 'ferrulelaw25.VolNames': WHATEVER THE INPUT: true; the input reads as it did. -/
def volNamesSpec : ChangeSpec := { name := "volNames", fn := fun _ => fun
  | [d] => { results := [.lit (.bool true)], args := [d] }
  | _ => none }
def volNamesRow : OpenClaim := { program := "ytcddeopioaagoaagreat", sum := "ef16cc0619a611aa2a7779e973acfbc49fbafe43c89b851a0caa9a1049135579", func := "ferrule/ferrulelaw25.VolNames", spec := "volNames", unfollowed := true, recurses := true, apart := false }
def VolNamesSaid : Prop := volNamesRow.holds Tryz.pinned (OpenSpec.ofChange volNamesSpec)

/-- ITS FALSE NEIGHBOUR: 'it returns false'. Refute it at one input. -/
def volNamesWrong : ChangeSpec := { name := "volNames", fn := fun _ => fun
  | [d] => { results := [.lit (.bool false)], args := [d] }
  | _ => none }
def VolNamesWrongFalsely : Prop := volNamesRow.holds Tryz.pinned (OpenSpec.ofChange volNamesWrong)

/-- 'ferrulelaw25.VolPlays': WHATEVER THE INPUT: true; the input reads as it did. -/
def volPlaysSpec : ChangeSpec := { name := "volPlays", fn := fun _ => fun
  | [d1, d2, d3] => { results := [.lit (.bool true)], args := [d1, d2, d3] }
  | _ => none }
def volPlaysRow : OpenClaim := { program := "ytcddeopioaagoaagreat", sum := "ef16cc0619a611aa2a7779e973acfbc49fbafe43c89b851a0caa9a1049135579", func := "ferrule/ferrulelaw25.VolPlays", spec := "volPlays", inPlace := ["internal/bytealg.MakeNoZero"], unfollowed := true, recurses := true, apart := false }
def VolPlaysSaid : Prop := volPlaysRow.holds Tryz.pinned (OpenSpec.ofChange volPlaysSpec)

/-- ITS FALSE NEIGHBOUR: 'it returns false'. Refute it at one input. -/
def volPlaysWrong : ChangeSpec := { name := "volPlays", fn := fun _ => fun
  | [d1, d2, d3] => { results := [.lit (.bool false)], args := [d1, d2, d3] }
  | _ => none }
def VolPlaysWrongFalsely : Prop := volPlaysRow.holds Tryz.pinned (OpenSpec.ofChange volPlaysWrong)

/-- 'ferrulelaw25.VolApart': WHATEVER THE INPUT: true; the input reads as it did. -/
def volApartSpec : ChangeSpec := { name := "volApart", fn := fun _ => fun
  | [d1, d2, d3, d4] => { results := [.lit (.bool true)], args := [d1, d2, d3, d4] }
  | _ => none }
def volApartRow : OpenClaim := { program := "ytcddeopioaagoaagreat", sum := "ef16cc0619a611aa2a7779e973acfbc49fbafe43c89b851a0caa9a1049135579", func := "ferrule/ferrulelaw25.VolApart", spec := "volApart", unfollowed := true, recurses := true, apart := false }
def VolApartSaid : Prop := volApartRow.holds Tryz.pinned (OpenSpec.ofChange volApartSpec)

/-- ITS FALSE NEIGHBOUR: 'it returns false'. Refute it at one input. -/
def volApartWrong : ChangeSpec := { name := "volApart", fn := fun _ => fun
  | [d1, d2, d3, d4] => { results := [.lit (.bool false)], args := [d1, d2, d3, d4] }
  | _ => none }
def VolApartWrongFalsely : Prop := volApartRow.holds Tryz.pinned (OpenSpec.ofChange volApartWrong)

/-- 'ferrulelaw25.VolWhole': WHATEVER THE INPUT: true; the input reads as it did. -/
def volWholeSpec : ChangeSpec := { name := "volWhole", fn := fun _ => fun
  | [d1, d2, d3] => { results := [.lit (.bool true)], args := [d1, d2, d3] }
  | _ => none }
def volWholeRow : OpenClaim := { program := "ytcddeopioaagoaagreat", sum := "ef16cc0619a611aa2a7779e973acfbc49fbafe43c89b851a0caa9a1049135579", func := "ferrule/ferrulelaw25.VolWhole", spec := "volWhole", unfollowed := true, recurses := true, apart := false }
def VolWholeSaid : Prop := volWholeRow.holds Tryz.pinned (OpenSpec.ofChange volWholeSpec)

/-- ITS FALSE NEIGHBOUR: 'it returns false'. Refute it at one input. -/
def volWholeWrong : ChangeSpec := { name := "volWhole", fn := fun _ => fun
  | [d1, d2, d3] => { results := [.lit (.bool false)], args := [d1, d2, d3] }
  | _ => none }
def VolWholeWrongFalsely : Prop := volWholeRow.holds Tryz.pinned (OpenSpec.ofChange volWholeWrong)

/-- 'ferrulelaw26.KvPlays': WHATEVER THE INPUT: true; the input reads as it did. -/
def kvPlaysSpec : ChangeSpec := { name := "kvPlays", fn := fun _ => fun
  | [d1, d2, d3, d4, d5] => { results := [.lit (.bool true)], args := [d1, d2, d3, d4, d5] }
  | _ => none }
def kvPlaysRow : OpenClaim := { program := "ytcddeopioaagoaagreat", sum := "ef16cc0619a611aa2a7779e973acfbc49fbafe43c89b851a0caa9a1049135579", func := "ferrule/ferrulelaw26.KvPlays", spec := "kvPlays", inPlace := ["internal/bytealg.MakeNoZero"], unfollowed := true, recurses := true, apart := false }
def KvPlaysSaid : Prop := kvPlaysRow.holds Tryz.pinned (OpenSpec.ofChange kvPlaysSpec)

/-- ITS FALSE NEIGHBOUR: 'it returns false'. Refute it at one input. -/
def kvPlaysWrong : ChangeSpec := { name := "kvPlays", fn := fun _ => fun
  | [d1, d2, d3, d4, d5] => { results := [.lit (.bool false)], args := [d1, d2, d3, d4, d5] }
  | _ => none }
def KvPlaysWrongFalsely : Prop := kvPlaysRow.holds Tryz.pinned (OpenSpec.ofChange kvPlaysWrong)

/-- 'ferrulelaw26.KvMany': WHATEVER THE INPUT: true; the input reads as it did. -/
def kvManySpec : ChangeSpec := { name := "kvMany", fn := fun _ => fun
  | [d1, d2] => { results := [.lit (.bool true)], args := [d1, d2] }
  | _ => none }
def kvManyRow : OpenClaim := { program := "ytcddeopioaagoaagreat", sum := "ef16cc0619a611aa2a7779e973acfbc49fbafe43c89b851a0caa9a1049135579", func := "ferrule/ferrulelaw26.KvMany", spec := "kvMany", unfollowed := true, recurses := true, apart := false }
def KvManySaid : Prop := kvManyRow.holds Tryz.pinned (OpenSpec.ofChange kvManySpec)

/-- ITS FALSE NEIGHBOUR: 'it returns false'. Refute it at one input. -/
def kvManyWrong : ChangeSpec := { name := "kvMany", fn := fun _ => fun
  | [d1, d2] => { results := [.lit (.bool false)], args := [d1, d2] }
  | _ => none }
def KvManyWrongFalsely : Prop := kvManyRow.holds Tryz.pinned (OpenSpec.ofChange kvManyWrong)

/-- 'ferrulelaw26.KvOrder': WHATEVER THE INPUT: true; the input reads as it did. -/
def kvOrderSpec : ChangeSpec := { name := "kvOrder", fn := fun _ => fun
  | [d1, d2] => { results := [.lit (.bool true)], args := [d1, d2] }
  | _ => none }
def kvOrderRow : OpenClaim := { program := "ytcddeopioaagoaagreat", sum := "ef16cc0619a611aa2a7779e973acfbc49fbafe43c89b851a0caa9a1049135579", func := "ferrule/ferrulelaw26.KvOrder", spec := "kvOrder", unfollowed := true, recurses := true, apart := false }
def KvOrderSaid : Prop := kvOrderRow.holds Tryz.pinned (OpenSpec.ofChange kvOrderSpec)

/-- ITS FALSE NEIGHBOUR: 'it returns false'. Refute it at one input. -/
def kvOrderWrong : ChangeSpec := { name := "kvOrder", fn := fun _ => fun
  | [d1, d2] => { results := [.lit (.bool false)], args := [d1, d2] }
  | _ => none }
def KvOrderWrongFalsely : Prop := kvOrderRow.holds Tryz.pinned (OpenSpec.ofChange kvOrderWrong)

/- THE SECOND FORM. 'bulk': how many values and letters a reading holds, each counted each time it is reached (what is shared counts as often as it is met; a slice's spare places count too). A statement '..UptoSaid' is the law's where the arguments, and the package variables that the reading takes, are together of bulk at most 1048576: NARROWER than '..Said'. Prove '..Said' where nothing that the law and all that it calls make is longer than what came in: it says more and counts as full. Else prove '..UptoSaid'. A law counts once. -/
mutual
def uptoBulk {H : Type} : DataW H → Nat
  | .lit (.string bytes) => bytes.length + 1
  | .lit _ => 1
  | .nil => 1
  | .ptr d => uptoBulk d + 1
  | .slice elems spare => uptoBulkAll elems + uptoBulkAll spare + 1
  | .agg parts => uptoBulkAll parts + 1
  | .iface _ d => uptoBulk d + 1
  | .map entries => uptoBulkEntries entries + 1
  | .held _ => 1
def uptoBulkAll {H : Type} : List (DataW H) → Nat
  | [] => 0
  | d :: r => uptoBulk d + uptoBulkAll r
def uptoBulkEntries {H : Type} : List (Lit × DataW H) → Nat
  | [] => 0
  | x :: r => uptoBulkEntry x + uptoBulkEntries r
def uptoBulkEntry {H : Type} : Lit × DataW H → Nat
  | (.string bytes, d) => bytes.length + uptoBulk d + 1
  | (_, d) => uptoBulk d + 1
 end
def uptoSmall : (H : Type) → List (DataW H) → Bool := fun _ ds => decide (uptoBulkAll ds ≤ 1048576)
def OpenSpec.upto (s : _root_.Go.ChangeSpec) : _root_.Go.OpenSpec := { _root_.Go.OpenSpec.ofChange s with cond := some uptoSmall }

/-- 'ferrulelaw25.VolNames', WHERE WHAT IT READS IS OF BULK AT MOST 1048576: true; the input reads as it did. -/
def volNamesUptoRow : OpenClaim := { program := "ytcddeopioaagoaagreat", sum := "ef16cc0619a611aa2a7779e973acfbc49fbafe43c89b851a0caa9a1049135579", func := "ferrule/ferrulelaw25.VolNames", spec := "volNames", unfollowed := true, recurses := true, apart := false, narrowed := true }
def VolNamesUptoSaid : Prop := volNamesUptoRow.holds Tryz.pinned (OpenSpec.upto volNamesSpec)

/-- 'ferrulelaw25.VolPlays', WHERE WHAT IT READS IS OF BULK AT MOST 1048576: true; the input reads as it did. -/
def volPlaysUptoRow : OpenClaim := { program := "ytcddeopioaagoaagreat", sum := "ef16cc0619a611aa2a7779e973acfbc49fbafe43c89b851a0caa9a1049135579", func := "ferrule/ferrulelaw25.VolPlays", spec := "volPlays", inPlace := ["internal/bytealg.MakeNoZero"], unfollowed := true, recurses := true, apart := false, narrowed := true }
def VolPlaysUptoSaid : Prop := volPlaysUptoRow.holds Tryz.pinned (OpenSpec.upto volPlaysSpec)

/-- 'ferrulelaw25.VolApart', WHERE WHAT IT READS IS OF BULK AT MOST 1048576: true; the input reads as it did. -/
def volApartUptoRow : OpenClaim := { program := "ytcddeopioaagoaagreat", sum := "ef16cc0619a611aa2a7779e973acfbc49fbafe43c89b851a0caa9a1049135579", func := "ferrule/ferrulelaw25.VolApart", spec := "volApart", unfollowed := true, recurses := true, apart := false, narrowed := true }
def VolApartUptoSaid : Prop := volApartUptoRow.holds Tryz.pinned (OpenSpec.upto volApartSpec)

/-- 'ferrulelaw25.VolWhole', WHERE WHAT IT READS IS OF BULK AT MOST 1048576: true; the input reads as it did. -/
def volWholeUptoRow : OpenClaim := { program := "ytcddeopioaagoaagreat", sum := "ef16cc0619a611aa2a7779e973acfbc49fbafe43c89b851a0caa9a1049135579", func := "ferrule/ferrulelaw25.VolWhole", spec := "volWhole", unfollowed := true, recurses := true, apart := false, narrowed := true }
def VolWholeUptoSaid : Prop := volWholeUptoRow.holds Tryz.pinned (OpenSpec.upto volWholeSpec)

/-- 'ferrulelaw26.KvPlays', WHERE WHAT IT READS IS OF BULK AT MOST 1048576: true; the input reads as it did. -/
def kvPlaysUptoRow : OpenClaim := { program := "ytcddeopioaagoaagreat", sum := "ef16cc0619a611aa2a7779e973acfbc49fbafe43c89b851a0caa9a1049135579", func := "ferrule/ferrulelaw26.KvPlays", spec := "kvPlays", inPlace := ["internal/bytealg.MakeNoZero"], unfollowed := true, recurses := true, apart := false, narrowed := true }
def KvPlaysUptoSaid : Prop := kvPlaysUptoRow.holds Tryz.pinned (OpenSpec.upto kvPlaysSpec)

/-- 'ferrulelaw26.KvMany', WHERE WHAT IT READS IS OF BULK AT MOST 1048576: true; the input reads as it did. -/
def kvManyUptoRow : OpenClaim := { program := "ytcddeopioaagoaagreat", sum := "ef16cc0619a611aa2a7779e973acfbc49fbafe43c89b851a0caa9a1049135579", func := "ferrule/ferrulelaw26.KvMany", spec := "kvMany", unfollowed := true, recurses := true, apart := false, narrowed := true }
def KvManyUptoSaid : Prop := kvManyUptoRow.holds Tryz.pinned (OpenSpec.upto kvManySpec)

/-- 'ferrulelaw26.KvOrder', WHERE WHAT IT READS IS OF BULK AT MOST 1048576: true; the input reads as it did. -/
def kvOrderUptoRow : OpenClaim := { program := "ytcddeopioaagoaagreat", sum := "ef16cc0619a611aa2a7779e973acfbc49fbafe43c89b851a0caa9a1049135579", func := "ferrule/ferrulelaw26.KvOrder", spec := "kvOrder", unfollowed := true, recurses := true, apart := false, narrowed := true }
def KvOrderUptoSaid : Prop := kvOrderUptoRow.holds Tryz.pinned (OpenSpec.upto kvOrderSpec)

end Rows
end Go.Proofs.YtcddeopioaagoaaGreat
