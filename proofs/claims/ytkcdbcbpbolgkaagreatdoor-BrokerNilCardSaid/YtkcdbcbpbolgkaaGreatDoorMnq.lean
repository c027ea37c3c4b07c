/- Texts Fa, Fb. -/
import Derived.Test.YtkcdbcbpbolgkaaGreatDoorMnp
import Derived.Calls
import Derived.Orders
import Derived.Tactics
import Derived.Laws.AppendOwn
import Derived.Laws.Slices
import Derived.Laws.Closers25
import Derived.Laws.StructEq
import Derived.Laws.BytesString
import Derived.Laws.CopyRow
import Derived.MapKept
import Derived.Maps.RangeRun
import Derived.TacticsIn
import Derived.OrdersIn
import Derived.RangeFuncRecord
import Derived.RangeFuncLeaves
import Derived.IntWalk
import Derived.ProofKit
import Derived.OpenShut
import Derived.Carry
import Derived.Test.YtkcdbcbpbolgkaaGreatDoorProg
import Derived.KernelRfl
import Derived.Shelf.Spec.SlicesInsertGrow

namespace Go.Proofs.YtkcdbcbpbolgkaaGreatDoor
open Go.Abs Go.RowKit Go.Lib
set_option linter.unusedSimpArgs false
set_option linter.unusedVariables false
theorem hov (w : World) (b vb off lb cb vc : Nat) (cur curv : Array Value) (e ev : TypeId) (hb : w.heap[b]? = some (.cells cur e (0, 0))) (hv : w.heap[vb]? = some (.cells curv ev (0, 0))) (hne : vb ≠ b) (h0 : cur.size ≠ 0) :
  (callFunc 226 #[.slice (some ⟨vb, 0, none⟩) 1 vc, .slice (some ⟨b, off, none⟩) lb cb]).run Tryz.prog w = .ok (.value (.bool false)) w := by
 rw [run_callFunc_extern Tryz.func226 rfl (by kernel_rfl) (by kernel_rfl) (e := Extern.SlicesOverlaps.overlaps #[46, 46] #[4]) (by kernel_rfl),
  Lib.run_overlaps_apart w 46 4 163 Tryz.underlying46 4 Tryz.sizeOf163 ⟨vb, 0, none⟩ ⟨b, off, none⟩ 1 vc lb cb hne ev e curv.size cur.size (by simp [World.shape?, hv]) (by simp [World.shape?, hb]) h0 (by simp [World.frozen?, hv]) (by simp [World.frozen?, hv])]
 rfl
end Go.Proofs.YtkcdbcbpbolgkaaGreatDoor
namespace Go.Proofs.YtkcdbcbpbolgkaaGreatDoor
open Go.Abs Go.RowKit Go.Lib
set_option linter.unusedSimpArgs false
set_option linter.unusedVariables false
section
variable {P : Program} {g : Ghost} {w : World}
end
theorem flat_take {es : Nat} : ∀ {rows : List (List D)}, (∀ r ∈ rows, r.length = es) → ∀ i, (rows.take i).flatten = rows.flatten.take (i * es)
 | [], _, i => by simp
 | r :: l, h, 0 => by simp
 | r :: l, h, i + 1 => by
  have hr : r.length = es := h r (by simp)
  rw [List.take_succ_cons, List.flatten_cons, List.flatten_cons, flat_take (fun x hx => h x (by simp [hx])) i, List.take_append, hr, Nat.succ_mul]
  rw [List.take_of_length_le (show r.length ≤ i * es + es by omega)]
  congr 2
  omega
theorem flat_drop {es : Nat} : ∀ {rows : List (List D)}, (∀ r ∈ rows, r.length = es) → ∀ i, (rows.drop i).flatten = rows.flatten.drop (i * es)
 | [], _, i => by simp
 | r :: l, h, 0 => by simp
 | r :: l, h, i + 1 => by
  have hr : r.length = es := h r (by simp)
  rw [List.drop_succ_cons, List.flatten_cons, flat_drop (fun x hx => h x (by simp [hx])) i, List.drop_append, hr, Nat.succ_mul]
  rw [List.drop_of_length_le (show r.length ≤ i * es + es by omega), List.nil_append]
  congr 1
  omega
end Go.Proofs.YtkcdbcbpbolgkaaGreatDoor
