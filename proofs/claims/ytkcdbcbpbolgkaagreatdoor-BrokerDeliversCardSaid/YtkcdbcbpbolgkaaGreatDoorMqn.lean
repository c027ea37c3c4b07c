/- Texts Wi, Wj. -/
import Derived.Test.YtkcdbcbpbolgkaaGreatDoorMqm
import Derived.Lib.Strings
import Derived.Lib.Slices
import Derived.Lib.Walk
import Derived.Lib.Bytealg
import Derived.Shelf.SlSortCmp.WholeK
set_option linter.unusedSimpArgs false
set_option linter.unusedVariables false
namespace Go.Proofs.YtkcdbcbpbolgkaaGreatDoor
open Go.Abs Go.Shelf Go.RowKit Go.Lib Go.Sort
def xc7 : Go.Shelf.Ren := ⟨fun | 6 => 172 | 15 => 238 | 14 => 237 | 28 => 280 | 29 => 281 | 20 => 272 | 21 => 273 | 22 => 274 | 23 => 275 | 24 => 276 | 25 => 277 | 26 => 278 | 27 => 279 | 46 => 320 | 47 => 321 | 48 => 322 | 49 => 323 | 50 => 324 | 57 => 335 | n => n, fun | 22 => 192 | 24 => 195 | 25 => 289 | 3 => 3 | 39 => 338 | 0 => 0 | 53 => 372 | 55 => 270 | 4 => 4 | 46 => 366 | 45 => 365 | 50 => 171 | 5 => 5 | 9 => 9 | 66 => 404 | 70 => 353 | 76 => 420 | 77 => 92 | n => n, fun | n => n⟩
theorem xqk : Go.Proofs.SlLaysF0.n6 Tryz.prog xc7 := {
 mixed := by kernel_rfl
 f6 := ⟨Tryz.f172.name, by decide, Tryz.func172.trans (congrArg some (by kernel_rfl))⟩
 f14 := ⟨Tryz.f237.name, by decide, Tryz.func237.trans (congrArg some (by kernel_rfl))⟩
 f15 := Tryz.func238.trans (congrArg some (by kernel_rfl))
 f20 := ⟨Tryz.f272.name, by decide, Tryz.func272.trans (congrArg some (by kernel_rfl))⟩
 f21 := ⟨Tryz.f273.name, by decide, Tryz.func273.trans (congrArg some (by kernel_rfl))⟩
 f22 := ⟨Tryz.f274.name, by decide, Tryz.func274.trans (congrArg some (by kernel_rfl))⟩
 f23 := ⟨Tryz.f275.name, by decide, Tryz.func275.trans (congrArg some (by kernel_rfl))⟩
 f24 := ⟨Tryz.f276.name, by decide, Tryz.func276.trans (congrArg some (by kernel_rfl))⟩
 f25 := ⟨Tryz.f277.name, by decide, Tryz.func277.trans (congrArg some (by kernel_rfl))⟩
 f26 := ⟨Tryz.f278.name, by decide, Tryz.func278.trans (congrArg some (by kernel_rfl))⟩
 f27 := ⟨Tryz.f279.name, by decide, Tryz.func279.trans (congrArg some (by kernel_rfl))⟩
 f28 := Tryz.func280.trans (congrArg some (by kernel_rfl))
 f29 := Tryz.func281.trans (congrArg some (by kernel_rfl))
 f46 := ⟨Tryz.f320.name, by decide, Tryz.func320.trans (congrArg some (by kernel_rfl))⟩
 f47 := Tryz.func321.trans (congrArg some (by kernel_rfl))
 f48 := Tryz.func322.trans (congrArg some (by kernel_rfl))
 f49 := ⟨Tryz.f323.name, by decide, Tryz.func323.trans (congrArg some (by kernel_rfl))⟩
 f50 := ⟨Tryz.f324.name, by decide, Tryz.func324.trans (congrArg some (by kernel_rfl))⟩
 f57 := ⟨Tryz.f335.name, by decide, Tryz.func335.trans (congrArg some (by kernel_rfl))⟩
 t0 := Tryz.underlying0
 a0 := Tryz.isAgg0
 z0 := Tryz.sizeOf0
 v0 := Tryz.zeroValue0
 t3 := Tryz.underlying3
 a3 := Tryz.isAgg3
 z3 := Tryz.sizeOf3
 v3 := Tryz.zeroValue3
 t4 := Tryz.underlying4
 a4 := Tryz.isAgg4
 z4 := Tryz.sizeOf4
 v4 := Tryz.zeroValue4
 t5 := Tryz.underlying5
 a5 := Tryz.isAgg5
 z5 := Tryz.sizeOf5
 v5 := Tryz.zeroValue5
 t9 := Tryz.underlying9
 a9 := Tryz.isAgg9
 z9 := Tryz.sizeOf9
 v9 := Tryz.zeroValue9
 t22 := Tryz.underlying192
 a22 := Tryz.isAgg192
 z22 := Tryz.sizeOf192
 v22 := Tryz.zeroValue192
 t25 := Tryz.underlying289
 a25 := Tryz.isAgg289
 z25 := Tryz.sizeOf289
 v25 := Tryz.zeroValue289
 t39 := Tryz.underlying338
 a39 := Tryz.isAgg338
 z39 := Tryz.sizeOf338
 v39 := Tryz.zeroValue338
 t45 := Tryz.underlying365
 a45 := Tryz.isAgg365
 z45 := Tryz.sizeOf365
 v45 := Tryz.zeroValue365
 t46 := Tryz.underlying366
 a46 := Tryz.isAgg366
 z46 := Tryz.sizeOf366
 v46 := Tryz.zeroValue366
 t50 := Tryz.underlying171
 a50 := Tryz.isAgg171
 z50 := Tryz.sizeOf171
 v50 := Tryz.zeroValue171
 t53 := Tryz.underlying372
 a53 := Tryz.isAgg372
 z53 := Tryz.sizeOf372
 v53 := Tryz.zeroValue372
 t55 := Tryz.underlying270
 a55 := Tryz.isAgg270
 z55 := Tryz.sizeOf270
 v55 := Tryz.zeroValue270
 t66 := Tryz.underlying404
 a66 := Tryz.isAgg404
 z66 := Tryz.sizeOf404
 v66 := Tryz.zeroValue404
 t70 := Tryz.underlying353
 a70 := Tryz.isAgg353
 z70 := Tryz.sizeOf353
 v70 := Tryz.zeroValue353
 t76 := Tryz.underlying420
 a76 := Tryz.isAgg420
 z76 := Tryz.sizeOf420
 v76 := Tryz.zeroValue420
 t77 := Tryz.underlying92
 a77 := Tryz.isAgg92
 z77 := Tryz.sizeOf92
 v77 := Tryz.zeroValue92 }
set_option maxHeartbeats 1000000 in
set_option maxRecDepth 100000 in
theorem qn9 (a b : ByteArray) (w : World) :
  Calls Tryz.prog 239 #[.string a, .string b] w fun e w' => e = .returned (.int .i64 (Lib.compareBytes a.data.toList b.data.toList)) ∧ w' = w := by
 go_enter Tryz.func239, Tryz.ntmps239
 go_wp2
 rw [run_callFunc_extern Tryz.func282 (by kernel_rfl) (by kernel_rfl) (by kernel_rfl) (e := Extern.BytealgCompare.compare) (by kernel_rfl), Lib.run_compareString]
 simp only [Result.andThen]
 rw [Oper.upon_value]
 go_wp2
 go_ret
 exact ⟨rfl, rfl⟩
set_option maxHeartbeats 1000000 in
theorem q89 (a b : ByteArray) (w : World) :
  Calls Tryz.prog 174 #[.string a, .string b] w fun e w' => e = .returned (.int .i64 (Lib.compareBytes a.data.toList b.data.toList)) ∧ w' = w := by
 go_enter Tryz.func174, Tryz.ntmps174
 go_wp2_with (go_at_call 239; refine (qn9 _ _ _).mono ?_; rintro e w' ⟨rfl, rfl⟩)
 go_ret
 exact ⟨rfl, rfl⟩
abbrev RowE := List UInt8 × { v : Value // v.oneCell' = true }
instance : Inhabited RowE := ⟨([], ⟨.int .i64 0, rfl⟩)⟩
def encR (x : RowE) : List Value := [.string ⟨x.1.toArray⟩, x.2.1]
def cmpR (x y : RowE) : Int := Lib.compareBytes x.1 y.1
set_option maxHeartbeats 1000000 in
theorem xin (x y : RowE) (W : World) : Calls Tryz.prog 173 #[.agg (encR x).toArray, .agg (encR y).toArray] W fun e w' => e = .returned (.int .i64 (cmpR x y)) ∧ ∃ q os', w' = grow (W.drewN q) os' := by
 have hcon := fun W' => q89 ⟨x.1.toArray⟩ ⟨y.1.toArray⟩ W'
 have e : Lib.compareBytes (ByteArray.mk x.1.toArray).data.toList (ByteArray.mk y.1.toArray).data.toList = cmpR x y := rfl
 simp only [e] at hcon
 generalize cmpR x y = r at hcon ⊢
 obtain ⟨k1, v1, h1⟩ := x
 obtain ⟨k2, v2, h2⟩ := y
 simp only [encR]
 go_enter Tryz.func173, Tryz.ntmps173
 go_wp2_with (go_at_call 174; refine (hcon _).mono ?_; rintro e w' ⟨rfl, rfl⟩)
 go_ret
 exact ⟨rfl, 0, _, by rw [alloc_eq_grow, alloc_eq_grow, grow_grow]; rfl⟩
end Go.Proofs.YtkcdbcbpbolgkaaGreatDoor
namespace Go.Proofs.YtkcdbcbpbolgkaaGreatDoor
open Go.Abs Go.Shelf Go.RowKit Go.Lib Go.Sort
abbrev cmpB := Lib.compareBytes
theorem qkt : ∀ a : List UInt8, cmpB a a = 0
 | [] => rfl
 | a :: l => by simp [cmpB, Lib.compareBytes]; exact qkt l
theorem qhs : ∀ a b : List UInt8, cmpB a b = - cmpB b a
 | [], [] => rfl
 | [], _ :: _ => rfl
 | _ :: _, [] => rfl
 | a :: l, b :: m => by
  have ih := qhs l m
  simp only [cmpB, Lib.compareBytes] at ih ⊢
  by_cases h1 : a < b
  ·have h2 : ¬ b < a := by rw [UInt8.lt_iff_toNat_lt] at *; omega
   simp [h1, h2]
  ·by_cases h2 : b < a
   ·simp [h1, h2]
   ·simp [h1, h2, ih]
theorem qku : ∀ {a b : List UInt8}, cmpB a b = 0 → a = b
 | [], [], _ => rfl
 | [], _ :: _, h => by simp [cmpB, Lib.compareBytes] at h
 | _ :: _, [], h => by simp [cmpB, Lib.compareBytes] at h
 | a :: l, b :: m, h => by
  simp only [cmpB, Lib.compareBytes] at h
  split at h
  ·simp at h
  ·split at h
   ·simp at h
   ·rename_i h1 h2
    have : a = b := by
     apply UInt8.toNat_inj.1
     rw [UInt8.lt_iff_toNat_lt] at h1 h2
     omega
    rw [this, qku h]
theorem qf3 : ∀ {a b c : List UInt8}, cmpB a b ≤ 0 → cmpB b c ≤ 0 → cmpB a c ≤ 0 ∧ (cmpB a b < 0 ∨ cmpB b c < 0 → cmpB a c < 0)
 | [], [], [], _, _ => by simp [cmpB, Lib.compareBytes]
 | [], [], _ :: _, _, _ => by simp [cmpB, Lib.compareBytes]
 | [], _ :: _, [], _, h => by simp [cmpB, Lib.compareBytes] at h
 | [], _ :: _, _ :: _, _, _ => by simp [cmpB, Lib.compareBytes]
 | _ :: _, [], _, h, _ => by simp [cmpB, Lib.compareBytes] at h
 | _ :: _, _ :: _, [], _, h => by simp [cmpB, Lib.compareBytes] at h
 | a :: l, b :: m, c :: n, h1, h2 => by
  simp only [cmpB, Lib.compareBytes] at h1 h2 ⊢
  by_cases ab : a < b
  ·by_cases bc : b < c
   ·have ac : a < c := by rw [UInt8.lt_iff_toNat_lt] at *; omega
    simp [ac]
   ·by_cases cb : c < b
    ·simp [bc, cb] at h2
    ·have ac : a < c := by rw [UInt8.lt_iff_toNat_lt] at *; omega
     simp [ac]
  ·by_cases ba : b < a
   ·simp [ab, ba] at h1
   ·by_cases bc : b < c
    ·have ac : a < c := by rw [UInt8.lt_iff_toNat_lt] at *; omega
     simp [ac]
    ·by_cases cb : c < b
     ·simp [bc, cb] at h2
     ·have ac : ¬ a < c := by rw [UInt8.lt_iff_toNat_lt] at *; omega
      have ca : ¬ c < a := by rw [UInt8.lt_iff_toNat_lt] at *; omega
      simp only [ab, ba, bc, cb, ac, ca, if_false] at h1 h2 ⊢
      exact qf3 h1 h2
theorem qec {a b : List UInt8} : ¬ cmpB a b < 0 ↔ cmpB b a ≤ 0 := by
 have := qhs a b
 omega
theorem xua : SWO (ltOf cmpR) where
 irrefl x := by
  have h : ¬ cmpB x.1 x.1 < 0 := by rw [qkt]; omega
  exact decide_eq_false h
 trans x y z h1 h2 := by
  have k1 : cmpB x.1 y.1 < 0 := of_decide_eq_true h1
  have k2 : cmpB y.1 z.1 < 0 := of_decide_eq_true h2
  exact decide_eq_true ((qf3 (Int.le_of_lt k1) (Int.le_of_lt k2)).2 (.inl k1))
 ntrans x y z h1 h2 := by
  have k1 : cmpB y.1 x.1 ≤ 0 := qec.1 (of_decide_eq_false h1)
  have k2 : cmpB z.1 y.1 ≤ 0 := qec.1 (of_decide_eq_false h2)
  exact decide_eq_false (qec.2 (qf3 k2 k1).1)
abbrev En := List UInt8 × List UInt8
def vd (e : En) : List D := [.str e.1, .sl 1 (qd e.2)]
theorem qqv (e : En) : D.noPtrL (vd e) = true := by simp only [vd, D.noPtrL, D.noPtr, y4, Bool.and_self]
theorem qqw (l : List En) : D.noPtrR (l.map vd) = true := xx qqv l
attribute [go_sem] qqv qqw
def qfd (l : List En) : List D := (l.map vd).flatten
theorem qie (l : List En) : (qfd l).length = l.length * 2 := by induction l <;> simp_all [qfd, vd]; omega
theorem qz1 (l : List En) : D.noPtrL (qfd l) = true := by
 rw [D.noPtrL_iff]
 exact fun d hd => (D.noPtrR_iff _).1 (qqw l) d hd
theorem qtx (l : List En) : ∀ (i : Nat) (e : En), l[i]? = some e → (qfd l)[2 * i]? = some (.str e.1) ∧ (qfd l)[2 * i + 1]? = some (.sl 1 (qd e.2)) := by
 induction l with
 | nil => intro i e h; simp at h
 | cons x l ih =>
  intro i e h
  have hf : qfd (x :: l) = .str x.1 :: .sl 1 (qd x.2) :: qfd l := rfl
  rw [hf]
  cases i with
  | zero => simp at h; subst h; exact ⟨rfl, rfl⟩
  | succ i =>
   obtain ⟨h1, h2⟩ := ih i e (by simpa using h)
   exact ⟨by rw [show 2 * (i + 1) = 2 * i + 1 + 1 by omega]; simpa using h1, by rw [show 2 * (i + 1) + 1 = 2 * i + 1 + 1 + 1 by omega]; simpa using h2⟩
def leEn (a b : En) : Bool := decide (cmpB a.1 b.1 ≤ 0)
def qes (l : List En) : List En := l.mergeSort leEn
theorem wi (l : List En) : (qes l).Perm l := List.mergeSort_perm l leEn
theorem qd0 (l : List En) : (qes l).Pairwise fun a b => cmpB a.1 b.1 ≤ 0 := by
 have := List.pairwise_mergeSort (le := leEn) (fun a b c h1 h2 => by simp only [leEn, decide_eq_true_eq] at *; exact (qf3 h1 h2).1) (fun a b => by
  simp only [leEn, Bool.or_eq_true, decide_eq_true_eq]
  have := qhs a.1 b.1
  omega) l
 exact this.imp (by intro a b h; simpa [leEn] using h)
theorem qif : ∀ {l m : List En}, l.Perm m → (l.map (·.1)).Nodup → l.Pairwise (fun a b => cmpB a.1 b.1 ≤ 0) → m.Pairwise (fun a b => cmpB a.1 b.1 ≤ 0) → l = m
 | [], m, hp, _, _, _ => by rw [List.nil_perm] at hp; exact hp.symm
 | a :: l, [], hp, _, _, _ => by simp at hp
 | a :: l, b :: m, hp, hn, hl, hm => by
  have hab : a = b := by
   have h1 : b ∈ a :: l := hp.mem_iff.2 List.mem_cons_self
   have h2 : a ∈ b :: m := hp.mem_iff.1 List.mem_cons_self
   rcases List.mem_cons.1 h1 with h1 | h1
   ·exact h1.symm
   ·rcases List.mem_cons.1 h2 with h2 | h2
    ·exact h2
    ·have k1 := (List.pairwise_cons.1 hl).1 b h1
     have k2 := (List.pairwise_cons.1 hm).1 a h2
     have k3 : cmpB a.1 b.1 = 0 := by have := qhs a.1 b.1; omega
     have := qku k3
     simp only [List.map_cons, List.nodup_cons] at hn
     exact (hn.1 (List.mem_map.2 ⟨b, h1, this.symm⟩)).elim
  subst hab
  simp only [List.map_cons, List.nodup_cons] at hn
  rw [qif ((List.perm_cons a).1 hp) hn.2 (List.pairwise_cons.1 hl).2 (List.pairwise_cons.1 hm).2]
theorem xc8 {α γ : Type} (f : γ → α) : ∀ {l l' : List α}, l.Perm l' → ∀ {P : List γ}, l' = P.map f → ∃ Q : List γ, Q.Perm P ∧ Q.map f = l := by
 intro l l' h
 induction h with
 | nil => intro P hP; cases P <;> simp at hP; exact ⟨[], .nil, rfl⟩
 | cons x _ ih =>
  intro P hP
  cases P with
  | nil => simp at hP
  | cons p P =>
   simp only [List.map_cons, List.cons.injEq] at hP
   obtain ⟨Q, q1, q2⟩ := ih hP.2
   exact ⟨p :: Q, q1.cons p, by simp [q2, hP.1]⟩
 | swap x y l =>
  intro P hP
  match P, hP with
  | p :: q :: P, hP =>
   simp only [List.map_cons, List.cons.injEq] at hP
   exact ⟨q :: p :: P, .swap .., by simp [hP]⟩
  | [], hP => simp at hP
  | [_], hP => simp at hP
 | trans _ _ ih1 ih2 =>
  intro P hP
  obtain ⟨Q, q1, q2⟩ := ih2 hP
  obtain ⟨Q', r1, r2⟩ := ih1 q2.symm
  exact ⟨Q', r1.trans q1, r2⟩
end Go.Proofs.YtkcdbcbpbolgkaaGreatDoor
