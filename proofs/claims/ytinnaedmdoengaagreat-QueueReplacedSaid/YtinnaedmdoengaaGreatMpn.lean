/- Texts Wi, Wj. -/
import Derived.Test.YtinnaedmdoengaaGreatMpm
import Derived.Calls
import Derived.Orders
import Derived.Tactics
import Derived.Laws.AppendOwn
import Derived.Laws.Slices
import Derived.Laws.Closers25
import Derived.Laws.StructEq
import Derived.Laws.BytesString
import Derived.Laws.CopyRow
import Derived.MapKept
import Derived.Maps.RangeRun
import Derived.TacticsIn
import Derived.OrdersIn
import Derived.RangeFuncRecord
import Derived.RangeFuncLeaves
import Derived.IntWalk
import Derived.ProofKit
import Derived.OpenShut
import Derived.Carry
import Derived.Test.YtinnaedmdoengaaGreatProg
import Derived.KernelRfl
import Derived.OwnWalkIn
import Derived.TacticsInMore
import Derived.LoopIn
import Derived.WalkKit
import Derived.Lib.Strings
import Derived.Lib.Slices
import Derived.Lib.Walk
import Derived.Lib.Bytealg
import Derived.Shelf.SlSortCmp.WholeK

namespace Go.Proofs.YtinnaedmdoengaaGreat
open Go.Abs Go.Shelf Go.RowKit Go.Lib Go.Sort
set_option linter.unusedSimpArgs false
set_option linter.unusedVariables false
abbrev RowE := List UInt8 × { v : Value // v.oneCell' = true }
instance : Inhabited RowE := ⟨([], ⟨.int .i64 0, rfl⟩)⟩
end Go.Proofs.YtinnaedmdoengaaGreat
namespace Go.Proofs.YtinnaedmdoengaaGreat
open Go.Abs Go.Shelf Go.RowKit Go.Lib Go.Sort
set_option linter.unusedSimpArgs false
set_option linter.unusedVariables false
abbrev cmpB := Lib.compareBytes
abbrev En := List UInt8 × List UInt8
def zq (e : En) : List D := [.str e.1, .sl 1 (qe e.2)]
theorem qjm (e : En) : D.noPtrL (zq e) = true := by simp only [zq, D.noPtrL, D.noPtr, vr, Bool.and_self]
theorem qjn (l : List En) : D.noPtrR (l.map zq) = true := xn qjm l
attribute [go_sem] qjm qjn
def qbj (l : List En) : List D := (l.map zq).flatten
theorem qp0 (l : List En) : D.noPtrL (qbj l) = true := by
 rw [D.noPtrL_iff]
 exact fun d hd => (D.noPtrR_iff _).1 (qjn l) d hd
def leEn (a b : En) : Bool := decide (cmpB a.1 b.1 ≤ 0)
def qa0 (l : List En) : List En := l.mergeSort leEn
end Go.Proofs.YtinnaedmdoengaaGreat
