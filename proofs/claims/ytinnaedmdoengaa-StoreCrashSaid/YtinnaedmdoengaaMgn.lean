/- Texts Wi, Wj. -/
import Derived.Test.YtinnaedmdoengaaMgm
import Derived.Calls
import Derived.Orders
import Derived.Tactics
import Derived.Laws.AppendOwn
import Derived.Laws.Slices
import Derived.Laws.Closers25
import Derived.Laws.StructEq
import Derived.Laws.BytesString
import Derived.Laws.CopyRow
import Derived.MapKept
import Derived.Maps.RangeRun
import Derived.TacticsIn
import Derived.OrdersIn
import Derived.RangeFuncRecord
import Derived.RangeFuncLeaves
import Derived.IntWalk
import Derived.ProofKit
import Derived.OpenShut
import Derived.Carry
import Derived.Test.YtinnaedmdoengaaProg
import Derived.KernelRfl
import Derived.OwnWalkIn
import Derived.TacticsInMore
import Derived.LoopIn
import Derived.WalkKit
import Derived.Lib.Strings
import Derived.Lib.Slices
import Derived.Lib.Walk
import Derived.Lib.Bytealg
import Derived.Shelf.SlSortCmp.WholeK

namespace Go.Proofs.Ytinnaedmdoengaa
open Go.Abs Go.Shelf Go.RowKit Go.Lib Go.Sort
set_option linter.unusedSimpArgs false
set_option linter.unusedVariables false
def sortE_ren : Go.Shelf.Ren := ⟨fun | 6 => 45 | 15 => 97 | 14 => 96 | 28 => 132 | 29 => 133 | 20 => 124 | 21 => 125 | 22 => 126 | 23 => 127 | 24 => 128 | 25 => 129 | 26 => 130 | 27 => 131 | 46 => 153 | 47 => 154 | 48 => 155 | 49 => 156 | 50 => 157 | 57 => 168 | n => n, fun | 22 => 42 | 24 => 99 | 25 => 102 | 3 => 3 | 39 => 153 | 0 => 0 | 53 => 187 | 55 => 142 | 4 => 4 | 46 => 180 | 45 => 179 | 50 => 184 | 5 => 5 | 9 => 9 | 66 => 205 | 70 => 165 | 76 => 216 | 77 => 217 | n => n, fun | n => n⟩
theorem q05 : Go.Proofs.SlLaysF0.n6 Try.prog sortE_ren := {
 mixed := by kernel_rfl
 f6 := ⟨Try.f45.name, by decide, Try.func45.trans (congrArg some (by kernel_rfl))⟩
 f14 := ⟨Try.f96.name, by decide, Try.func96.trans (congrArg some (by kernel_rfl))⟩
 f15 := Try.func97.trans (congrArg some (by kernel_rfl))
 f20 := ⟨Try.f124.name, by decide, Try.func124.trans (congrArg some (by kernel_rfl))⟩
 f21 := ⟨Try.f125.name, by decide, Try.func125.trans (congrArg some (by kernel_rfl))⟩
 f22 := ⟨Try.f126.name, by decide, Try.func126.trans (congrArg some (by kernel_rfl))⟩
 f23 := ⟨Try.f127.name, by decide, Try.func127.trans (congrArg some (by kernel_rfl))⟩
 f24 := ⟨Try.f128.name, by decide, Try.func128.trans (congrArg some (by kernel_rfl))⟩
 f25 := ⟨Try.f129.name, by decide, Try.func129.trans (congrArg some (by kernel_rfl))⟩
 f26 := ⟨Try.f130.name, by decide, Try.func130.trans (congrArg some (by kernel_rfl))⟩
 f27 := ⟨Try.f131.name, by decide, Try.func131.trans (congrArg some (by kernel_rfl))⟩
 f28 := Try.func132.trans (congrArg some (by kernel_rfl))
 f29 := Try.func133.trans (congrArg some (by kernel_rfl))
 f46 := ⟨Try.f153.name, by decide, Try.func153.trans (congrArg some (by kernel_rfl))⟩
 f47 := Try.func154.trans (congrArg some (by kernel_rfl))
 f48 := Try.func155.trans (congrArg some (by kernel_rfl))
 f49 := ⟨Try.f156.name, by decide, Try.func156.trans (congrArg some (by kernel_rfl))⟩
 f50 := ⟨Try.f157.name, by decide, Try.func157.trans (congrArg some (by kernel_rfl))⟩
 f57 := ⟨Try.f168.name, by decide, Try.func168.trans (congrArg some (by kernel_rfl))⟩
 t0 := Try.underlying0
 a0 := Try.isAgg0
 z0 := Try.sizeOf0
 v0 := Try.zeroValue0
 t3 := Try.underlying3
 a3 := Try.isAgg3
 z3 := Try.sizeOf3
 v3 := Try.zeroValue3
 t4 := Try.underlying4
 a4 := Try.isAgg4
 z4 := Try.sizeOf4
 v4 := Try.zeroValue4
 t5 := Try.underlying5
 a5 := Try.isAgg5
 z5 := Try.sizeOf5
 v5 := Try.zeroValue5
 t9 := Try.underlying9
 a9 := Try.isAgg9
 z9 := Try.sizeOf9
 v9 := Try.zeroValue9
 t22 := Try.underlying42
 a22 := Try.isAgg42
 z22 := Try.sizeOf42
 v22 := Try.zeroValue42
 t25 := Try.underlying102
 a25 := Try.isAgg102
 z25 := Try.sizeOf102
 v25 := Try.zeroValue102
 t39 := Try.underlying153
 a39 := Try.isAgg153
 z39 := Try.sizeOf153
 v39 := Try.zeroValue153
 t45 := Try.underlying179
 a45 := Try.isAgg179
 z45 := Try.sizeOf179
 v45 := Try.zeroValue179
 t46 := Try.underlying180
 a46 := Try.isAgg180
 z46 := Try.sizeOf180
 v46 := Try.zeroValue180
 t50 := Try.underlying184
 a50 := Try.isAgg184
 z50 := Try.sizeOf184
 v50 := Try.zeroValue184
 t53 := Try.underlying187
 a53 := Try.isAgg187
 z53 := Try.sizeOf187
 v53 := Try.zeroValue187
 t55 := Try.underlying142
 a55 := Try.isAgg142
 z55 := Try.sizeOf142
 v55 := Try.zeroValue142
 t66 := Try.underlying205
 a66 := Try.isAgg205
 z66 := Try.sizeOf205
 v66 := Try.zeroValue205
 t70 := Try.underlying165
 a70 := Try.isAgg165
 z70 := Try.sizeOf165
 v70 := Try.zeroValue165
 t76 := Try.underlying216
 a76 := Try.isAgg216
 z76 := Try.sizeOf216
 v76 := Try.zeroValue216
 t77 := Try.underlying217
 a77 := Try.isAgg217
 z77 := Try.sizeOf217
 v77 := Try.zeroValue217 }
set_option maxHeartbeats 1000000 in
set_option maxRecDepth 100000 in
theorem qb3 (a b : ByteArray) (w : World) :
  Calls Try.prog 98 #[.string a, .string b] w fun e w' => e = .returned (.int .i64 (Lib.compareBytes a.data.toList b.data.toList)) ∧ w' = w := by
 go_enter Try.func98, Try.ntmps98
 go_wp2
 rw [run_callFunc_extern Try.func134 (by kernel_rfl) (by kernel_rfl) (by kernel_rfl) (e := Extern.BytealgCompare.compare) (by kernel_rfl), Lib.run_compareString]
 simp only [Result.andThen]
 rw [Oper.upon_value]
 go_wp2
 go_ret
 exact ⟨rfl, rfl⟩
set_option maxHeartbeats 1000000 in
theorem qom (a b : ByteArray) (w : World) :
  Calls Try.prog 47 #[.string a, .string b] w fun e w' => e = .returned (.int .i64 (Lib.compareBytes a.data.toList b.data.toList)) ∧ w' = w := by
 go_enter Try.func47, Try.ntmps47
 go_wp2_with (go_at_call 98; refine (qb3 _ _ _).mono ?_; rintro e w' ⟨rfl, rfl⟩)
 go_ret
 exact ⟨rfl, rfl⟩
abbrev RowE := List UInt8 × { v : Value // v.oneCell' = true }
instance : Inhabited RowE := ⟨([], ⟨.int .i64 0, rfl⟩)⟩
def encR (x : RowE) : List Value := [.string ⟨x.1.toArray⟩, x.2.1]
def cmpR (x y : RowE) : Int := Lib.compareBytes x.1 y.1
set_option maxHeartbeats 1000000 in
theorem quf (x y : RowE) (W : World) : Calls Try.prog 46 #[.agg (encR x).toArray, .agg (encR y).toArray] W fun e w' => e = .returned (.int .i64 (cmpR x y)) ∧ ∃ q os', w' = grow (W.drewN q) os' := by
 have hcon := fun W' => qom ⟨x.1.toArray⟩ ⟨y.1.toArray⟩ W'
 have e : Lib.compareBytes (ByteArray.mk x.1.toArray).data.toList (ByteArray.mk y.1.toArray).data.toList = cmpR x y := rfl
 simp only [e] at hcon
 generalize cmpR x y = r at hcon ⊢
 obtain ⟨k1, v1, h1⟩ := x
 obtain ⟨k2, v2, h2⟩ := y
 simp only [encR]
 go_enter Try.func46, Try.ntmps46
 go_wp2_with (go_at_call 47; refine (hcon _).mono ?_; rintro e w' ⟨rfl, rfl⟩)
 go_ret
 exact ⟨rfl, 0, _, by rw [alloc_eq_grow, alloc_eq_grow, grow_grow]; rfl⟩
end Go.Proofs.Ytinnaedmdoengaa
namespace Go.Proofs.Ytinnaedmdoengaa
open Go.Abs Go.Shelf Go.RowKit Go.Lib Go.Sort
set_option linter.unusedSimpArgs false
set_option linter.unusedVariables false
abbrev cmpB := Lib.compareBytes
theorem qai : ∀ a : List UInt8, cmpB a a = 0
 | [] => rfl
 | a :: l => by simp [cmpB, Lib.compareBytes]; exact qai l
theorem vz : ∀ a b : List UInt8, cmpB a b = - cmpB b a
 | [], [] => rfl
 | [], _ :: _ => rfl
 | _ :: _, [] => rfl
 | a :: l, b :: m => by
  have ih := vz l m
  simp only [cmpB, Lib.compareBytes] at ih ⊢
  by_cases h1 : a < b
  ·have h2 : ¬ b < a := by rw [UInt8.lt_iff_toNat_lt] at *; omega
   simp [h1, h2]
  ·by_cases h2 : b < a
   ·simp [h1, h2]
   ·simp [h1, h2, ih]
theorem qaj : ∀ {a b : List UInt8}, cmpB a b = 0 → a = b
 | [], [], _ => rfl
 | [], _ :: _, h => by simp [cmpB, Lib.compareBytes] at h
 | _ :: _, [], h => by simp [cmpB, Lib.compareBytes] at h
 | a :: l, b :: m, h => by
  simp only [cmpB, Lib.compareBytes] at h
  split at h
  ·simp at h
  ·split at h
   ·simp at h
   ·rename_i h1 h2
    have : a = b := by
     apply UInt8.toNat_inj.1
     rw [UInt8.lt_iff_toNat_lt] at h1 h2
     omega
    rw [this, qaj h]
theorem kv : ∀ {a b c : List UInt8}, cmpB a b ≤ 0 → cmpB b c ≤ 0 → cmpB a c ≤ 0 ∧ (cmpB a b < 0 ∨ cmpB b c < 0 → cmpB a c < 0)
 | [], [], [], _, _ => by simp [cmpB, Lib.compareBytes]
 | [], [], _ :: _, _, _ => by simp [cmpB, Lib.compareBytes]
 | [], _ :: _, [], _, h => by simp [cmpB, Lib.compareBytes] at h
 | [], _ :: _, _ :: _, _, _ => by simp [cmpB, Lib.compareBytes]
 | _ :: _, [], _, h, _ => by simp [cmpB, Lib.compareBytes] at h
 | _ :: _, _ :: _, [], _, h => by simp [cmpB, Lib.compareBytes] at h
 | a :: l, b :: m, c :: n, h1, h2 => by
  simp only [cmpB, Lib.compareBytes] at h1 h2 ⊢
  by_cases ab : a < b
  ·by_cases bc : b < c
   ·have ac : a < c := by rw [UInt8.lt_iff_toNat_lt] at *; omega
    simp [ac]
   ·by_cases cb : c < b
    ·simp [bc, cb] at h2
    ·have ac : a < c := by rw [UInt8.lt_iff_toNat_lt] at *; omega
     simp [ac]
  ·by_cases ba : b < a
   ·simp [ab, ba] at h1
   ·by_cases bc : b < c
    ·have ac : a < c := by rw [UInt8.lt_iff_toNat_lt] at *; omega
     simp [ac]
    ·by_cases cb : c < b
     ·simp [bc, cb] at h2
     ·have ac : ¬ a < c := by rw [UInt8.lt_iff_toNat_lt] at *; omega
      have ca : ¬ c < a := by rw [UInt8.lt_iff_toNat_lt] at *; omega
      simp only [ab, ba, bc, cb, ac, ca, if_false] at h1 h2 ⊢
      exact kv h1 h2
theorem js {a b : List UInt8} : ¬ cmpB a b < 0 ↔ cmpB b a ≤ 0 := by
 have := vz a b
 omega
theorem xhz : SWO (ltOf cmpR) where
 irrefl x := by
  have h : ¬ cmpB x.1 x.1 < 0 := by rw [qai]; omega
  exact decide_eq_false h
 trans x y z h1 h2 := by
  have k1 : cmpB x.1 y.1 < 0 := of_decide_eq_true h1
  have k2 : cmpB y.1 z.1 < 0 := of_decide_eq_true h2
  exact decide_eq_true ((kv (Int.le_of_lt k1) (Int.le_of_lt k2)).2 (.inl k1))
 ntrans x y z h1 h2 := by
  have k1 : cmpB y.1 x.1 ≤ 0 := js.1 (of_decide_eq_false h1)
  have k2 : cmpB z.1 y.1 ≤ 0 := js.1 (of_decide_eq_false h2)
  exact decide_eq_false (js.2 (kv k2 k1).1)
abbrev En := List UInt8 × List UInt8
def encEn (e : En) : List D := [.str e.1, .sl 1 (byteRows e.2)]
theorem qdd (e : En) : D.noPtrL (encEn e) = true := by simp only [encEn, D.noPtrL, D.noPtr, xw, Bool.and_self]
theorem qak (l : List En) : D.noPtrR (l.map encEn) = true := qo qdd l
attribute [go_sem] qdd qak
def flatEn (l : List En) : List D := (l.map encEn).flatten
theorem wh (l : List En) : (flatEn l).length = l.length * 2 := by induction l <;> simp_all [flatEn, encEn]; omega
theorem qi5 (l : List En) : D.noPtrL (flatEn l) = true := by
 rw [D.noPtrL_iff]
 exact fun d hd => (D.noPtrR_iff _).1 (qak l) d hd
theorem qe9 (l : List En) : ∀ (i : Nat) (e : En), l[i]? = some e → (flatEn l)[2 * i]? = some (.str e.1) ∧ (flatEn l)[2 * i + 1]? = some (.sl 1 (byteRows e.2)) := by
 induction l with
 | nil => intro i e h; simp at h
 | cons x l ih =>
  intro i e h
  have hf : flatEn (x :: l) = .str x.1 :: .sl 1 (byteRows x.2) :: flatEn l := rfl
  rw [hf]
  cases i with
  | zero => simp at h; subst h; exact ⟨rfl, rfl⟩
  | succ i =>
   obtain ⟨h1, h2⟩ := ih i e (by simpa using h)
   exact ⟨by rw [show 2 * (i + 1) = 2 * i + 1 + 1 by omega]; simpa using h1, by rw [show 2 * (i + 1) + 1 = 2 * i + 1 + 1 + 1 by omega]; simpa using h2⟩
def leEn (a b : En) : Bool := decide (cmpB a.1 b.1 ≤ 0)
def sortEn (l : List En) : List En := l.mergeSort leEn
theorem xg (l : List En) : (sortEn l).Perm l := List.mergeSort_perm l leEn
theorem jl (l : List En) : (sortEn l).Pairwise fun a b => cmpB a.1 b.1 ≤ 0 := by
 have := List.pairwise_mergeSort (le := leEn) (fun a b c h1 h2 => by simp only [leEn, decide_eq_true_eq] at *; exact (kv h1 h2).1) (fun a b => by
  simp only [leEn, Bool.or_eq_true, decide_eq_true_eq]
  have := vz a.1 b.1
  omega) l
 exact this.imp (by intro a b h; simpa [leEn] using h)
theorem wi : ∀ {l m : List En}, l.Perm m → (l.map (·.1)).Nodup → l.Pairwise (fun a b => cmpB a.1 b.1 ≤ 0) → m.Pairwise (fun a b => cmpB a.1 b.1 ≤ 0) → l = m
 | [], m, hp, _, _, _ => by rw [List.nil_perm] at hp; exact hp.symm
 | a :: l, [], hp, _, _, _ => by simp at hp
 | a :: l, b :: m, hp, hn, hl, hm => by
  have hab : a = b := by
   have h1 : b ∈ a :: l := hp.mem_iff.2 List.mem_cons_self
   have h2 : a ∈ b :: m := hp.mem_iff.1 List.mem_cons_self
   rcases List.mem_cons.1 h1 with h1 | h1
   ·exact h1.symm
   ·rcases List.mem_cons.1 h2 with h2 | h2
    ·exact h2
    ·have k1 := (List.pairwise_cons.1 hl).1 b h1
     have k2 := (List.pairwise_cons.1 hm).1 a h2
     have k3 : cmpB a.1 b.1 = 0 := by have := vz a.1 b.1; omega
     have := qaj k3
     simp only [List.map_cons, List.nodup_cons] at hn
     exact (hn.1 (List.mem_map.2 ⟨b, h1, this.symm⟩)).elim
  subst hab
  simp only [List.map_cons, List.nodup_cons] at hn
  rw [wi ((List.perm_cons a).1 hp) hn.2 (List.pairwise_cons.1 hl).2 (List.pairwise_cons.1 hm).2]
theorem qq8 {α γ : Type} (f : γ → α) : ∀ {l l' : List α}, l.Perm l' → ∀ {P : List γ}, l' = P.map f → ∃ Q : List γ, Q.Perm P ∧ Q.map f = l := by
 intro l l' h
 induction h with
 | nil => intro P hP; cases P <;> simp at hP; exact ⟨[], .nil, rfl⟩
 | cons x _ ih =>
  intro P hP
  cases P with
  | nil => simp at hP
  | cons p P =>
   simp only [List.map_cons, List.cons.injEq] at hP
   obtain ⟨Q, q1, q2⟩ := ih hP.2
   exact ⟨p :: Q, q1.cons p, by simp [q2, hP.1]⟩
 | swap x y l =>
  intro P hP
  match P, hP with
  | p :: q :: P, hP =>
   simp only [List.map_cons, List.cons.injEq] at hP
   exact ⟨q :: p :: P, .swap .., by simp [hP]⟩
  | [], hP => simp at hP
  | [_], hP => simp at hP
 | trans _ _ ih1 ih2 =>
  intro P hP
  obtain ⟨Q, q1, q2⟩ := ih2 hP
  obtain ⟨Q', r1, r2⟩ := ih1 q2.symm
  exact ⟨Q', r1.trans q1, r2⟩
end Go.Proofs.Ytinnaedmdoengaa
