/- A region that draws its order, by a condition that every operation keeps. -/
import Derived.Test.YtmgnihmjjijdoaaGreatDoorLib
import Derived.Deep.RegionHeld3
import Derived.Test.YtmgnihmjjijdoaaGreatDoorGNenE
namespace Go.Proofs.YtmgnihmjjijdoaaGreatDoor
open Go.RowKit
def don (d : Nat → Bool) (i : Nat) : Nat → Bool := fun j => if j = i then true else d j
def acyc (ops : Array Oper) : Bool := (List.range ops.size).all fun i => match ops[i]? with | some o => o.after.toList.all (fun e => !Region.binds .any e || decide (e.on < i)) | none => true
def leftN (l : Array Bool) : Nat := ((List.range l.size).filter fun i => !l.getD i false).length
theorem getD_set (l : Array Bool) (i j : Nat) (hi : i < l.size) : (l.setIfInBounds i true).getD j false = don (fun k => l.getD k false) i j := by
 unfold don
 simp only [Array.getD_eq_getD_getElem?, Array.getElem?_setIfInBounds]
 by_cases h : i = j
 ·subst h; simp [hi]
 ·rw [if_neg h, if_neg (Ne.symm h)]
theorem leftN_set (l : Array Bool) (i : Nat) (hi : i < l.size) (hf : l.getD i false = false) : leftN (l.setIfInBounds i true) < leftN l := by
 unfold leftN
 rw [Array.size_setIfInBounds]
 have hsub : ((List.range l.size).filter fun k => !(l.setIfInBounds i true).getD k false) = ((List.range l.size).filter fun k => !l.getD k false).filter (fun k => !(k == i)) := by
  rw [List.filter_filter]
  refine List.filter_congr (fun k _ => ?_)
  rw [getD_set l i k hi]
  unfold don
  by_cases h : k = i
  ·simp [h]
  ·simp [h]
 rw [hsub]
 exact List.length_filter_lt_length_iff_exists.2 ⟨i, by rw [List.mem_filter]; exact ⟨List.mem_range.2 hi, by rw [hf]; rfl⟩, by simp⟩
section
variable {P : Program} {ops : Array Oper} {Q : Exit → Act → World → Prop} {I : (Nat → Bool) → Act → World → Prop}
theorem ready_all (hac : acyc ops = true) (l : Array Bool) (hs : l.size = ops.size) (hr : Region.ready .any ops l = []) : ∀ i, i < ops.size → l.getD i false = true := by
  intro i
  induction i using Nat.strongRecOn with
  | ind i ih =>
    intro hi
    have h1 := List.filter_eq_nil_iff.1 hr i (List.mem_range.2 hi)
    have ho : ops[i]? = some ops[i] := Array.getElem?_eq_getElem hi
    have hall := List.all_eq_true.1 hac i (List.mem_range.2 hi)
    rw [ho] at h1 hall
    simp only [Option.map_some, Option.getD_some, Bool.and_eq_true, Bool.not_eq_true', not_and] at h1
    have hd : (ops[i].after.all fun e => !Region.binds .any e || l.getD e.on false) = true := by
      rw [← Array.all_toList, List.all_eq_true]
      intro e he
      have h9 := List.all_eq_true.1 hall e he
      cases hb : Region.binds .any e with
      | false => rfl
      | true =>
        rw [hb] at h9
        have hlt : e.on < i := of_decide_eq_true (by simpa using h9)
        rw [ih e.on hlt (by omega), Bool.or_true]
    have h2 : l.getD i true = true := by
      cases hb : l.getD i true with
      | true => rfl
      | false => exact absurd hd (h1 hb)
    rw [Array.getD_eq_getD_getElem?, Array.getElem?_eq_getElem (by omega)] at h2 ⊢
    exact h2
theorem wpAny_inv (hac : acyc ops = true)
    (hstep : ∀ (d : Nat → Bool) (a : Act) (w : World), I d a w → ∀ (i : Nat) (o : Oper), ops[i]? = some o → d i = false → (∀ e ∈ o.after.toList, Region.binds .any e = true → d e.on = true) → ∀ K : Act → World → Prop, Shut (∀ a w, I (don d i) a w → K a w) → if Region.wanted o (yielded ops a.tmps) = true then Oper.wp P o a w K Q else K (a.put o.dst undef) w)
    (hend : ∀ (d : Nat → Bool) (a : Act) (w : World), (∀ i, i < ops.size → d i = true) → I d a w → Q .normal a w) :
    ∀ (fuel : Nat) (l : Array Bool) (a : Act) (w : World), l.size = ops.size → leftN l ≤ fuel → I (fun i => l.getD i false) a w → wpAny P .any ops Q fuel l a w := by
  intro fuel
  induction fuel with
  | zero =>
    intro l a w hs hl hI
    have hnil : (List.range l.size).filter (fun i => !l.getD i false) = [] := List.eq_nil_of_length_eq_zero (Nat.le_zero.1 hl)
    have hall : ∀ i, i < ops.size → l.getD i false = true := fun i hi => by
      have := List.filter_eq_nil_iff.1 hnil i (List.mem_range.2 (by omega))
      simpa using this
    refine ⟨?_, hend _ a w hall hI⟩
    unfold Region.ready
    refine List.filter_eq_nil_iff.2 (fun i hi => ?_)
    have hi' := List.mem_range.1 hi
    have h := hall i hi'
    rw [Array.getD_eq_getD_getElem?, Array.getElem?_eq_getElem (by omega)] at h
    rw [Array.getD_eq_getD_getElem?, Array.getElem?_eq_getElem (by omega)]
    simp only [Option.getD_some] at h ⊢
    rw [h]
    simp
  | succ fuel ih =>
    intro l a w hs hl hI
    refine ⟨fun hr => hend _ a w (ready_all hac l hs hr) hI, fun i hi => ?_⟩
    unfold Region.ready at hi
    rw [List.mem_filter, List.mem_range, Bool.and_eq_true] at hi
    obtain ⟨hi1, hi2, hi3⟩ := hi
    have ho : ops[i]? = some ops[i] := Array.getElem?_eq_getElem hi1
    have hf : l.getD i false = false := by
      rw [Array.getD_eq_getD_getElem?, Array.getElem?_eq_getElem (by omega)] at hi2 ⊢
      simpa using hi2
    rw [ho, Option.map_some, Option.getD_some, ← Array.all_toList, List.all_eq_true] at hi3
    refine wpOp_step ho (fun K' hK => ?_)
    refine hstep _ a w hI i _ ho hf (fun e he hb => ?_) K' (fun a' w' hI' => hK a' w' ?_)
    · have := hi3 e he
      rw [hb] at this
      simpa using this
    · refine ih _ a' w' (by rw [Array.size_setIfInBounds]; exact hs) ?_ ?_
      · have := leftN_set l i (by omega) hf
        omega
      · rw [show (fun j => (l.setIfInBounds i true).getD j false) = don (fun k => l.getD k false) i from funext fun j => getD_set l i j (by omega)]
        exact hI'
theorem wp_region_inv {id : Nat} {a : Act} {w : World} (hm : P.follows .mixedOrders = true) (hac : acyc ops = true) (h0 : I (fun _ => false) a w.drew)
  (hstep : ∀ (d : Nat → Bool) (a : Act) (w : World), I d a w → ∀ (i : Nat) (o : Oper), ops[i]? = some o → d i = false → (∀ e ∈ o.after.toList, Region.binds .any e = true → d e.on = true) → ∀ K : Act → World → Prop, Shut (∀ a w, I (don d i) a w → K a w) → if Region.wanted o (yielded ops a.tmps) = true then Oper.wp P o a w K Q else K (a.put o.dst undef) w)
  (hend : ∀ (d : Nat → Bool) (a : Act) (w : World), (∀ i, i < ops.size → d i = true) → I d a w → Q .normal a w) : (Code.region id ops true).wp P Q a w :=
 wp_region_any hm (wpAny_inv hac hstep hend ops.size _ a w.drew (by simp) (by
  unfold leftN
  refine Nat.le_trans (List.length_filter_le _ _) ?_
  simp) (by
  have : (fun i => (Array.replicate ops.size false).getD i false) = fun _ : Nat => false := funext fun i => by
   rw [Array.getD_eq_getD_getElem?, Array.getElem?_replicate]
   split <;> rfl
  rw [this]
  exact h0))
end
def putF (a : Act) (ss : List Nat) (val : Nat → Value) : Act := ss.foldl (fun a s => a.put (some s) (val s)) a
def setv (val : Nat → Value) (dst : Option Nat) (v : Value) : Nat → Value := match dst with
 | some s => fun t => if t = s then v else val t
 | none => val
theorem putF_defers (ss : List Nat) (val : Nat → Value) : ∀ a : Act, (putF a ss val).defers = a.defers := by
 induction ss with
 | nil => intro a; rfl
 | cons s ss ih => intro a; exact ih _
theorem putF_size (ss : List Nat) (val : Nat → Value) : ∀ a : Act, (putF a ss val).tmps.size = a.tmps.size := by
 induction ss with
 | nil => intro a; rfl
 | cons s ss ih => intro a; exact (ih _).trans (by simp [Act.put])
theorem putF_get (ss : List Nat) (val : Nat → Value) (t : Nat) : ∀ a : Act, t < a.tmps.size → (putF a ss val).tmps[t]? = if t ∈ ss then some (val t) else a.tmps[t]? := by
  induction ss with
  | nil => intro a _; simp [putF]
  | cons s ss ih =>
    intro a ht
    have hsz : (a.put (some s) (val s)).tmps.size = a.tmps.size := by simp [Act.put]
    show (putF (a.put (some s) (val s)) ss val).tmps[t]? = _
    rw [ih _ (by rw [hsz]; exact ht)]
    by_cases hm : t ∈ ss
    · simp [hm]
    · rw [if_neg hm]
      simp only [Act.put, Array.getElem?_setIfInBounds]
      by_cases hs : s = t
      · subst hs; simp [ht]
      · rw [if_neg hs, if_neg (by simp [hm]; exact fun e => hs e.symm)]
theorem act_ext {a b : Act} (h1 : a.tmps.size = b.tmps.size) (h2 : ∀ t, t < a.tmps.size → a.tmps[t]? = b.tmps[t]?) (h3 : a.defers = b.defers) : a = b := by
 cases a; cases b
 simp only [Act.mk.injEq] at *
 refine ⟨?_, h3⟩
 apply Array.ext h1
 intro i hi hj
 have := h2 i hi
 rw [Array.getElem?_eq_getElem hi, Array.getElem?_eq_getElem hj] at this
 exact Option.some.inj this
theorem putF_self (a : Act) (ss : List Nat) : ∃ val, a = putF a ss val := by
 refine ⟨fun s => (a.tmps[s]?).getD undef, (act_ext (putF_size ss _ a) (fun t ht => ?_) (putF_defers ss _ a)).symm⟩
 rw [putF_size] at ht
 rw [putF_get ss _ t a ht]
 split
 ·rw [Array.getElem?_eq_getElem ht]; rfl
 ·rfl
theorem putF_put (a : Act) (ss : List Nat) (val : Nat → Value) (dst : Option Nat) (hd : ∀ s, dst = some s → s ∈ ss) (v : Value) : (putF a ss val).put dst v = putF a ss (setv val dst v) := by
  cases dst with
  | none => rfl
  | some s =>
    have hs := hd s rfl
    refine act_ext ?_ (fun t ht => ?_) ?_
    · simp [Act.put, putF_size]
    · have ht' : t < a.tmps.size := by simpa [Act.put, putF_size] using ht
      rw [putF_get ss _ t a ht']
      simp only [Act.put, Array.getElem?_setIfInBounds, putF_size, setv]
      by_cases h : s = t
      · subst h
        rw [if_pos rfl, if_pos ht', if_pos hs, if_pos rfl]
      · rw [if_neg h, putF_get ss _ t a ht']
        split
        · rw [if_neg (Ne.symm h)]
        · rfl
    · show (putF a ss val).defers = _
      rw [putF_defers, putF_defers]
section
variable {P : Program} {ops : Array Oper} {Q : Exit → Act → World → Prop}
def KeepsOp (P : Program) (ops : Array Oper) (Q : Exit → Act → World → Prop) (a0 : Act) (ss : List Nat) (J : (Nat → Bool) → (Nat → Value) → World → Prop) (k : Nat) (o : Oper) : Prop :=
 (∀ s, o.dst = some s → s ∈ ss) ∧ ∀ (d : Nat → Bool) (val : Nat → Value) (W : World), J d val W → d k = false → (∀ e ∈ o.after.toList, Region.binds .any e = true → d e.on = true) →
  ∀ K : Act → World → Prop, Shut (∀ v W', J (don d k) (setv val o.dst v) W' → K ((putF a0 ss val).put o.dst v) W') → if Region.wanted o (yielded ops (putF a0 ss val).tmps) = true then Oper.wp P o (putF a0 ss val) W K Q else K ((putF a0 ss val).put o.dst undef) W
def KeepsAll (P : Program) (ops : Array Oper) (Q : Exit → Act → World → Prop) (a0 : Act) (ss : List Nat) (J : (Nat → Bool) → (Nat → Value) → World → Prop) : Nat → List Oper → Prop
 | _, [] => True
 | k, o :: os => KeepsOp P ops Q a0 ss J k o ∧ KeepsAll P ops Q a0 ss J (k + 1) os
theorem keeps_get {a0 : Act} {ss : List Nat} {J : (Nat → Bool) → (Nat → Value) → World → Prop} : ∀ {l : List Oper} {k : Nat}, KeepsAll P ops Q a0 ss J k l → ∀ {j : Nat} {o : Oper}, l[j]? = some o → KeepsOp P ops Q a0 ss J (k + j) o
  | [], _, _, _, _, ho => by simp at ho
  | x :: l, k, h, 0, o, ho => by
    simp at ho; subst ho
    exact h.1
  | x :: l, k, h, j + 1, o, ho => by
    have := keeps_get h.2 (j := j) (o := o) (by simpa using ho)
    rwa [show k + 1 + j = k + (j + 1) by omega] at this
theorem region_inv {id : Nat} {a : Act} {w : World} (ss : List Nat) (J : (Nat → Bool) → (Nat → Value) → World → Prop) (hm : P.follows .mixedOrders = true) (hac : acyc ops = true)
  (h0 : ∀ val, J (fun _ => false) val w.drew) (hs : KeepsAll P ops Q a ss J 0 ops.toList)
  (hend : ∀ (d : Nat → Bool) (val : Nat → Value) (W : World), (∀ i, i < ops.size → d i = true) → J d val W → Q .normal (putF a ss val) W) : (Code.region id ops true).wp P Q a w := by
 refine wp_region_inv (I := fun d b W => ∃ val, b = putF a ss val ∧ J d val W) hm hac ?_ ?_ ?_
 ·obtain ⟨val, hv⟩ := putF_self a ss
  exact ⟨val, hv, h0 val⟩
 ·rintro d b W ⟨val, rfl, hJ⟩ i o ho hd hdep K hK
  have hk := keeps_get hs (j := i) (o := o) (by rw [← ho, Array.getElem?_toList])
  rw [Nat.zero_add] at hk
  refine hk.2 d val W hJ hd hdep K (fun v W' hJ' => hK.out _ _ ⟨setv val o.dst v, putF_put a ss val o.dst hk.1 v, hJ'⟩)
 ·rintro d b W hall ⟨val, rfl, hJ⟩
  exact hend d val W hall hJ
def ClosedD (ops : Array Oper) (d : Nat → Bool) : Prop := ∀ (i : Nat) (o : Oper), ops[i]? = some o → d i = true → ∀ e ∈ o.after.toList, Region.binds .any e = true → d e.on = true
theorem don_of {d : Nat → Bool} {i j : Nat} (h : d j = true) : don d i j = true := by
 unfold don
 split
 ·rfl
 ·exact h
def KeepsOp3 (P : Program) (ops : Array Oper) (Q : Exit → Act → World → Prop) (a0 : Act) (ss : List Nat) (J : (Nat → Bool) → (Nat → Value) → World → Prop) (k : Nat) (o : Oper) : Prop :=
 (∀ s, o.dst = some s → s ∈ ss) ∧ ∀ (d : Nat → Bool) (val : Nat → Value) (W : World), J d val W → d k = false → (∀ e ∈ o.after.toList, Region.binds .any e = true → d e.on = true) → ClosedD ops d →
  ∀ K : Act → World → Prop, Shut (∀ v W', J (don d k) (setv val o.dst v) W' → K ((putF a0 ss val).put o.dst v) W') → if Region.wanted o (yielded ops (putF a0 ss val).tmps) = true then Oper.wp P o (putF a0 ss val) W K Q else K ((putF a0 ss val).put o.dst undef) W
def KeepsAll3 (P : Program) (ops : Array Oper) (Q : Exit → Act → World → Prop) (a0 : Act) (ss : List Nat) (J : (Nat → Bool) → (Nat → Value) → World → Prop) : Nat → List Oper → Prop
 | _, [] => True
 | k, o :: os => KeepsOp3 P ops Q a0 ss J k o ∧ KeepsAll3 P ops Q a0 ss J (k + 1) os
theorem keeps_get3 {a0 : Act} {ss : List Nat} {J : (Nat → Bool) → (Nat → Value) → World → Prop} : ∀ {l : List Oper} {k : Nat}, KeepsAll3 P ops Q a0 ss J k l → ∀ {j : Nat} {o : Oper}, l[j]? = some o → KeepsOp3 P ops Q a0 ss J (k + j) o
  | [], _, _, _, _, ho => by simp at ho
  | x :: l, k, h, 0, o, ho => by
    simp at ho; subst ho
    exact h.1
  | x :: l, k, h, j + 1, o, ho => by
    have := keeps_get3 h.2 (j := j) (o := o) (by simpa using ho)
    rwa [show k + 1 + j = k + (j + 1) by omega] at this
theorem region_inv3 {id : Nat} {a : Act} {w : World} (ss : List Nat) (J : (Nat → Bool) → (Nat → Value) → World → Prop) (hm : P.follows .mixedOrders = true) (hac : acyc ops = true)
  (h0 : ∀ val, a = putF a ss val → J (fun _ => false) val w.drew) (hs : KeepsAll3 P ops Q a ss J 0 ops.toList)
  (hend : ∀ (d : Nat → Bool) (val : Nat → Value) (W : World), (∀ i, i < ops.size → d i = true) → J d val W → Q .normal (putF a ss val) W) : (Code.region id ops true).wp P Q a w := by
 refine wp_region_inv (I := fun d b W => ClosedD ops d ∧ ∃ val, b = putF a ss val ∧ J d val W) hm hac ?_ ?_ ?_
 ·obtain ⟨val, hv⟩ := putF_self a ss
  exact ⟨fun i o _ h => by simp at h, val, hv, h0 val hv⟩
 ·rintro d b W ⟨hcl, val, rfl, hJ⟩ i o ho hd hdep K hK
  have hk := keeps_get3 hs (j := i) (o := o) (by rw [← ho, Array.getElem?_toList])
  rw [Nat.zero_add] at hk
  refine hk.2 d val W hJ hd hdep hcl K (fun v W' hJ' => hK.out _ _ ⟨fun j o' ho' hj e he hb => ?_, setv val o.dst v, putF_put a ss val o.dst hk.1 v, hJ'⟩)
  by_cases hji : j = i
  ·subst hji
   have : o' = o := by rw [ho] at ho'; exact (Option.some.inj ho').symm
   subst this
   exact don_of (hdep e he hb)
  ·have hj' : d j = true := by
    unfold don at hj
    rwa [if_neg hji] at hj
   exact don_of (hcl j o' ho' hj' e he hb)
 ·rintro d b W hall ⟨-, val, rfl, hJ⟩
  exact hend d val W hall hJ
end
end Go.Proofs.YtmgnihmjjijdoaaGreatDoor
namespace Go.Proofs.YtmgnihmjjijdoaaGreatDoor
open Go.RowKit
theorem Own.lower9 {α : Type} {R : Rep α} {size : Nat} {e : TypeId} {w : World} {base base' : Nat} {S : Nat → Prop} {v : Value} {l : List α} (h : Own R size e w base' S v l) (hb : base ≤ base') : Own R size e w base S v l := by
 obtain ⟨xs, ⟨hl, h1⟩, h2, h3⟩ := h
 refine ⟨xs, ⟨hl, ?_⟩, h2, h3⟩
 rcases h1 with h1 | ⟨g, cap, cur, hv, hg, r⟩
 ·exact .inl h1
 ·exact .inr ⟨g, cap, cur, hv, Nat.le_trans hb hg, r⟩
theorem slot_three {a : Act} {ss : List Nat} {val : Nat → Value} {u v : Value} (h : (putF a ss val).tmps[3]? = some u) (hv : a = putF a ss val) (h2 : a.tmps[3]? = some v) : u = v := by
 rw [← hv, h2] at h
 exact (Option.some.inj h).symm
end Go.Proofs.YtmgnihmjjijdoaaGreatDoor
namespace Go.Proofs.YtmgnihmjjijdoaaGreatDoor
open Go.RowKit
theorem wrapG_at {t : Nat} (h : t % 32 ≠ 31) {xs : List (List UInt8)} : wrapG t xs = wrapF t xs := if_neg h
theorem sl_cell1 {W : World} {g : Nat} {x : ByteArray} (hg : g < W.heap.size) (h : W.cell? ⟨g, 0, none⟩ = some (.string x)) : Sl RStr 1 W (Lt W.heap.size) [x.data.toList] [.slice (some ⟨g, 0, none⟩) 1 1] :=
  ⟨_, 1, rfl, Nat.le_refl _, by simp [maxLen], fun _ => ⟨g, 0, rfl, hg, fun i y hy => ⟨strC y, rfl, fun j u hu => by
    match i, hy, j, hu with
    | 0, hy, 0, hu =>
      simp at hy; subst hy
      simp [strC] at hu; subst hu
      simpa using h⟩⟩⟩
theorem sl_cell2 {W : World} {g : Nat} {x y : ByteArray} (hg : g < W.heap.size) (h : W.cell? ⟨g, 0, none⟩ = some (.string x)) (h2 : W.cell? ⟨g, 1, none⟩ = some (.string y)) : Sl RStr 1 W (Lt W.heap.size) [x.data.toList, y.data.toList] [.slice (some ⟨g, 0, none⟩) 2 2] :=
  ⟨_, 2, rfl, Nat.le_refl _, by simp [maxLen], fun _ => ⟨g, 0, rfl, hg, fun i z hz => ⟨strC z, rfl, fun j u hu => by
    match i, hz, j, hu with
    | 0, hz, 0, hu =>
      simp at hz; subst hz
      simp [strC] at hu; subst hu
      simpa using h
    | 1, hz, 0, hu =>
      simp at hz; subst hz
      simp [strC] at hu; subst hu
      simpa using h2⟩⟩⟩
structure AJ (base : Nat) (sv : Value) (ga : Nat) (t v oid wv e : ByteArray) (kd : Int) (out : List (List UInt8)) (w0 : World) (dd : Nat → Bool) (val : Nat → Value) (W : World) : Prop where
 fb : dd 13 = false → Below w0.heap.size w0 W
 fb2 : Below base w0 W
 n3 : dd 14 = false → val 3 = sv
 v12 : dd 0 = true → val 12 = sv
 v13 : dd 1 = true → val 13 = .pointer (some ⟨ga, 0, none⟩)
 v14 : dd 2 = true → val 14 = .string t
 v15 : dd 3 = true → val 15 = .string oid
 v16 : dd 4 = true → val 16 = .pointer (some ⟨ga, 1, none⟩)
 v17 : dd 5 = true → val 17 = .int .i64 kd
 v18 : dd 6 = true → val 18 = .pointer (some ⟨ga, 2, none⟩)
 v19 : dd 7 = true → val 19 = .string v
 v21 : dd 9 = true → val 21 = .string wv
 v23 : dd 11 = true → val 23 = .string e
 r20 : dd 8 = true → dd 13 = false → ∃ g, val 20 = .slice (some ⟨g, 0, none⟩) 1 1 ∧ g < W.heap.size ∧ W.cell? ⟨g, 0, none⟩ = some (.string v)
 r22 : dd 10 = true → dd 13 = false → ∃ g, val 22 = .slice (some ⟨g, 0, none⟩) 2 2 ∧ g < W.heap.size ∧ W.cell? ⟨g, 0, none⟩ = some (.string oid) ∧ W.cell? ⟨g, 1, none⟩ = some (.string wv)
 r24 : dd 12 = true → dd 13 = false → ∃ g, val 24 = .slice (some ⟨g, 0, none⟩) 1 1 ∧ g < W.heap.size ∧ W.cell? ⟨g, 0, none⟩ = some (.string e)
 r25 : dd 13 = true → Own RStr 1 9 W base No (val 25) (out ++ [e.data.toList])
 v3 : dd 14 = true → val 3 = val 25
theorem AJ.start {base : Nat} {sv : Value} {ga : Nat} {t v oid wv e : ByteArray} {kd : Int} {out : List (List UInt8)} {w0 : World} {val : Nat → Value} (_hb : base ≤ w0.heap.size) (h : val 3 = sv) : AJ base sv ga t v oid wv e kd out w0 (fun _ => false) val w0.drew :=
 ⟨fun _ => (Below.refl _ _).drew, (Below.refl _ _).drew, fun _ => h, nofun, nofun, nofun, nofun, nofun, nofun, nofun, nofun, nofun, nofun, nofun, nofun, nofun, nofun, nofun⟩
set_option maxRecDepth 100000 in
set_option maxHeartbeats 16000000 in
theorem rattributes_any (l : List Attr) (A : Option Addr) (c : Nat) (hl : l.length ≤ 1000) (hok : ∀ a ∈ l, okA a) (w : World) (h : Sl RAttr 3 w (Lt w.heap.size) l [.slice A l.length c]) :
    Calls Tryz.prog 70 #[.slice A l.length c] w fun e w' => ∃ A' c', e = .returned (.slice A' l.length c') ∧ Sl RStr 1 w' (Btw w.heap.size w'.heap.size) (l.map encA) [.slice A' l.length c'] ∧ Below w.heap.size w w' := by
  have K := hide h
  have HOK := hide hok
  obtain ⟨base, hbase⟩ : ∃ b, b = w.heap.size := ⟨_, rfl⟩
  have HBASE := hide hbase
  have hgs0 : base ≤ w.heap.size := by omega
  have hbs : w.heap.size ≤ base := by omega
  clear h hok hbase
  go_enter Tryz.func70, Tryz.ntmps70
  go_wp2_with fail
  go_loopw [3, 8] (fun v i wr => ∃ (k : Nat) (out : List (List UInt8)), k ≤ l.length ∧ i = .int .i64 k ∧ out.length = k ∧ Own RStr 1 9 wr base No v out ∧ Below w.heap.size w wr ∧ base ≤ wr.heap.size ∧ out = (l.take k).map encA) (fun _ i _ => l.length - (intOf i).toNat)
  case atStart => exact ⟨0, [], by omega, rfl, rfl, Own.nil _ _ _ _ _ _, Below.refl _ _, hgs0, by simp⟩
  case round =>
    obtain ⟨k, out, hk, rfl, hol, hown, hb, hgs, hout⟩ := hrel
    have HB := hide hb
    have HOWN0 := hide hown
    have HLK := hide hol
    have HOUT := hide hout
    by_cases hlt : k < l.length
    · obtain ⟨b, off, hA, hbS, e0, e1, e2⟩ := K.out.attAt hlt
      subst hA
      have hoka := HOK.out l[k] (List.getElem_mem hlt)
      obtain ⟨⟨at_, kd, av⟩, hel⟩ : ∃ a, l[k] = a := ⟨_, rfl⟩
      have HELK := hide hel
      rw [hel] at e0 e1 e2 hoka
      simp only at e0 e1 e2
      obtain ⟨t, ht⟩ : ∃ x : ByteArray, x = ⟨at_.toArray⟩ := ⟨_, rfl⟩
      obtain ⟨v, hv⟩ : ∃ x : ByteArray, x = ⟨av.toArray⟩ := ⟨_, rfl⟩
      have htd : at_ = t.data.toList := by rw [ht]
      have hvd : av = v.data.toList := by rw [hv]
      rw [← ht] at e0
      rw [← hv] at e2
      rw [htd, hvd] at hoka
      have hts : t.size ≤ 1000 := by rw [← size_string]; exact valid_len hoka.1
      have hvs : v.size ≤ 64 := by rw [← size_string]; exact hoka.2.2.2
      obtain ⟨oid, hoid⟩ : ∃ x : ByteArray, x = ⟨(idW t.data.toList).toArray⟩ := ⟨_, rfl⟩
      have hoids : oid.size ≤ 1005 := by rw [hoid, ba_mk]; exact idW_len _
      obtain ⟨wv, hwv⟩ : ∃ x : ByteArray, x = ⟨(wrapW kd.toNat v.data.toList).toArray⟩ := ⟨_, rfl⟩
      have hwvs : wv.size ≤ 70 := by
        rw [hwv, ba_mk, wrapW_len]
        have := lenB_le v.data.toList.length
        rw [size_string] at *
        omega
      obtain ⟨e, he⟩ : ∃ x : ByteArray, x = ⟨(encA (t.data.toList, kd, v.data.toList)).toArray⟩ := ⟨_, rfl⟩
      obtain ⟨k1, k2, k3⟩ := kind_nat hoka
      simp only at k1 k2 k3
      have HOID := hide (show ∀ W : World, Calls Tryz.prog 117 #[.string t] W fun e9 w' => e9 = .returned (.string oid) ∧ Below W.heap.size W w' from fun W => hoid ▸ rOID_any t (by omega) W)
      have HWK := hide (show ∀ (W : World) (g : Nat), g < W.heap.size → W.cell? ⟨g, 0, none⟩ = some (.string v) → Calls Tryz.prog 116 #[.int .i64 kd, .slice (some ⟨g, 0, none⟩) 1 1] W fun e9 w' => e9 = .returned (.string wv) ∧ Below W.heap.size W w' from fun W g hg hc => by
        have hf : [v.data.toList].flatten = v.data.toList := by simp
        have := rWrap7_any kd.toNat k1 [v.data.toList] _ 1 (by rw [hf, size_string]; omega) W (sl_cell1 hg hc)
        rw [k3] at this
        refine this.mono ?_
        rintro e9 w' ⟨h1, h2⟩
        refine ⟨by rw [h1, hwv, wrapG_at k2, wrapF_one (by omega)], h2⟩)
      have HW48 := hide (show ∀ (W : World) (g : Nat), g < W.heap.size → W.cell? ⟨g, 0, none⟩ = some (.string oid) → W.cell? ⟨g, 1, none⟩ = some (.string wv) → Calls Tryz.prog 116 #[.int .i64 48, .slice (some ⟨g, 0, none⟩) 2 2] W fun e9 w' => e9 = .returned (.string e) ∧ Below W.heap.size W w' from fun W g hg hc hc2 => by
        have hf : [oid.data.toList, wv.data.toList].flatten = oid.data.toList ++ wv.data.toList := by simp
        refine (rWrap7_any 48 (by omega) [oid.data.toList, wv.data.toList] _ 2 (by rw [hf, List.length_append, size_string, size_string]; omega) W (sl_cell2 hg hc hc2)).mono ?_
        rintro e9 w' ⟨h1, h2⟩
        refine ⟨by rw [h1, he, wrapG_at (by omega), wrapF_two (by omega), hoid, hwv]; rfl, h2⟩)
      have HEA := hide (show encA l[k] = e.data.toList by rw [hel, htd, hvd, he])
      have p0 := (hb.cell (p := ⟨b, off + k * 3, none⟩) hbS).trans e0
      have p1 := (hb.cell (p := ⟨b, off + k * 3 + 1, none⟩) hbS).trans e1
      have p2 := (hb.cell (p := ⟨b, off + k * 3 + 2, none⟩) hbS).trans e2
      obtain ⟨A2, c2, hv2⟩ := (hown.sl RStr.ok).shape
      subst hv2
      have hoo : out.length ≤ 1000 := by omega
      clear e0 e1 e2 ht hv hel htd hvd hoka hoid hwv he k1 k2 k3 hb hown hol hout hts hvs hoids hwvs
      obtain ⟨w0, rfl⟩ : ∃ wo : World, wo = wr := ⟨_, rfl⟩
      go_upto_region 5 with fail
      obtain ⟨w1, hw1⟩ : ∃ W, W = w0.alloc (.cells #[.string t, .int .i64 kd, .string v] 84) := ⟨_, rfl⟩
      have hAB : AtB w0.heap.size t kd v w1 := by rw [hw1]; exact AtB.new w0 _ _ _
      have hb01 : Below w0.heap.size w0 w1 := by rw [hw1]; exact (Below.refl _ _).alloc (Nat.le_refl _) _
      obtain ⟨ga, hga⟩ : ∃ g, w0.heap.size = g := ⟨_, rfl⟩
      have HOWN := hide (HOWN0.out.below RStr.ok (no_lt _) hb01)
      have hbs1 : w.heap.size ≤ base := hbs
      have HB1 := hide (HB.out.trans (hb01.mono HB.out.size))
      have hb1 : base ≤ w1.heap.size := by have := hb01.size; omega
      rw [hga] at hAB
      have HC := hide (show ∀ W, Below w1.heap.size w1 W → W.cell? ⟨ga, 0, none⟩ = some (.string t) ∧ W.cell? ⟨ga, 1, none⟩ = some (.int .i64 kd) ∧ W.cell? ⟨ga, 2, none⟩ = some (.string v) from fun W hb => ⟨(hAB.below hb).facts.1, (hAB.below hb).facts.2.1, (hAB.below hb).facts.2.2.1⟩)
      rw [← hw1]
      try rw [hga]
      clear hw1 hAB hb01 hga p0 p1 p2
      refine region_inv3 [12, 13, 14, 15, 16, 17, 18, 19, 20, 21, 22, 23, 24, 25, 3] (AJ base (.slice A2 out.length c2) ga t v oid wv e kd out w1) (by kernel_rfl) (by kernel_rfl) (fun val hval => AJ.start hb1 (slot_three ((putF_get [12, 13, 14, 15, 16, 17, 18, 19, 20, 21, 22, 23, 24, 25, 3] val 3 _ (by simp)).trans (if_pos (by decide))) hval rfl)) ⟨?_, ?_, ?_, ?_, ?_, ?_, ?_, ?_, ?_, ?_, ?_, ?_, ?_, ?_, ?_, trivial⟩ ?_
      · refine ⟨fun s hs => by cases hs <;> decide, ?_⟩
        rintro dd val W hJ hd hdep hcl K hK
        rw [if_pos (by rfl)]
        dsimp only [putF, List.foldl, Act.put] at hK ⊢
        simp only [List.setIfInBounds_toArray, List.set_cons_zero, List.set_cons_succ] at hK ⊢
        have n3 := hJ.n3 (by
          cases h14 : dd 14 with
          | false => rfl
          | true =>
            have c13 := hcl 14 _ rfl h14 ⟨13, .data⟩ (by simp) rfl
            have c0 := hcl 13 _ rfl c13 ⟨0, .data⟩ (by simp) rfl
            rw [hd] at c0; cases c0)
        simp only [n3] at hK ⊢
        go_simp
        exact hK.out _ _ { fb := hJ.fb, fb2 := hJ.fb2, n3 := hJ.n3, v12 := fun _ => rfl, v13 := hJ.v13, v14 := hJ.v14, v15 := hJ.v15, v16 := hJ.v16, v17 := hJ.v17, v18 := hJ.v18, v19 := hJ.v19, v21 := hJ.v21, v23 := hJ.v23, r20 := hJ.r20, r22 := hJ.r22, r24 := hJ.r24, r25 := hJ.r25, v3 := hJ.v3 }
      · refine ⟨fun s hs => by cases hs <;> decide, ?_⟩
        rintro dd val W hJ hd hdep hcl K hK
        rw [if_pos (by rfl)]
        dsimp only [putF, List.foldl, Act.put] at hK ⊢
        simp only [List.setIfInBounds_toArray, List.set_cons_zero, List.set_cons_succ] at hK ⊢
        go_simp
        exact hK.out _ _ { fb := hJ.fb, fb2 := hJ.fb2, n3 := hJ.n3, v12 := hJ.v12, v13 := fun _ => rfl, v14 := hJ.v14, v15 := hJ.v15, v16 := hJ.v16, v17 := hJ.v17, v18 := hJ.v18, v19 := hJ.v19, v21 := hJ.v21, v23 := hJ.v23, r20 := hJ.r20, r22 := hJ.r22, r24 := hJ.r24, r25 := hJ.r25, v3 := hJ.v3 }
      · refine ⟨fun s hs => by cases hs <;> decide, ?_⟩
        rintro dd val W hJ hd hdep hcl K hK
        rw [if_pos (by rfl)]
        dsimp only [putF, List.foldl, Act.put] at hK ⊢
        simp only [List.setIfInBounds_toArray, List.set_cons_zero, List.set_cons_succ] at hK ⊢
        have h13 : dd 13 = false := by
          cases h : dd 13 with
          | false => rfl
          | true =>
            have c13 := h
            have c12 := hcl 13 _ rfl c13 ⟨12, .data⟩ (by simp) rfl
            have c11 := hcl 12 _ rfl c12 ⟨11, .data⟩ (by simp) rfl
            have c10 := hcl 11 _ rfl c11 ⟨10, .data⟩ (by simp) rfl
            have c3 := hcl 10 _ rfl c10 ⟨3, .data⟩ (by simp) rfl
            have c2 := hcl 3 _ rfl c3 ⟨2, .data⟩ (by simp) rfl
            rw [hd] at c2; cases c2
        have e13 := hJ.v13 (hdep ⟨1, .data⟩ (by simp) rfl)
        simp only [e13] at hK ⊢
        have q0 := (HC.out W (hJ.fb h13)).1
        go_simp
        exact hK.out _ _ { fb := hJ.fb, fb2 := hJ.fb2, n3 := hJ.n3, v12 := hJ.v12, v13 := hJ.v13, v14 := fun _ => rfl, v15 := hJ.v15, v16 := hJ.v16, v17 := hJ.v17, v18 := hJ.v18, v19 := hJ.v19, v21 := hJ.v21, v23 := hJ.v23, r20 := hJ.r20, r22 := hJ.r22, r24 := hJ.r24, r25 := hJ.r25, v3 := hJ.v3 }
      · refine ⟨fun s hs => by cases hs <;> decide, ?_⟩
        rintro dd val W hJ hd hdep hcl K hK
        rw [if_pos (by rfl)]
        dsimp only [putF, List.foldl, Act.put] at hK ⊢
        simp only [List.setIfInBounds_toArray, List.set_cons_zero, List.set_cons_succ] at hK ⊢
        have h13 : dd 13 = false := by
          cases h : dd 13 with
          | false => rfl
          | true =>
            have c13 := h
            have c12 := hcl 13 _ rfl c13 ⟨12, .data⟩ (by simp) rfl
            have c11 := hcl 12 _ rfl c12 ⟨11, .data⟩ (by simp) rfl
            have c10 := hcl 11 _ rfl c11 ⟨10, .data⟩ (by simp) rfl
            have c3 := hcl 10 _ rfl c10 ⟨3, .data⟩ (by simp) rfl
            rw [hd] at c3; cases c3
        have e14 := hJ.v14 (hdep ⟨2, .data⟩ (by simp) rfl)
        simp only [e14] at hK ⊢
        go_simp
        refine (HOID.out W).mono ?_
        rintro e9 w7 ⟨rfl, hb7⟩
        have hb13 := hJ.fb h13
        go_wp2_with fail
        exact hK.out _ _ { fb := fun _ => hb13.trans (hb7.mono hb13.size), fb2 := hJ.fb2.trans (hb7.mono (by have := hb13.size; omega)), n3 := hJ.n3, v12 := hJ.v12, v13 := hJ.v13, v14 := hJ.v14, v15 := fun _ => rfl, v16 := hJ.v16, v17 := hJ.v17, v18 := hJ.v18, v19 := hJ.v19, v21 := hJ.v21, v23 := hJ.v23, r20 := fun h1 h13 => (let ⟨g, y1, y2, z0⟩ := hJ.r20 h1 h13; ⟨g, y1, Nat.lt_of_lt_of_le y2 hb7.size, (hb7.cell (p := ⟨g, 0, none⟩) y2).trans z0⟩), r22 := fun h1 h13 => (let ⟨g, y1, y2, z0, z1⟩ := hJ.r22 h1 h13; ⟨g, y1, Nat.lt_of_lt_of_le y2 hb7.size, (hb7.cell (p := ⟨g, 0, none⟩) y2).trans z0, (hb7.cell (p := ⟨g, 1, none⟩) y2).trans z1⟩), r24 := fun h1 h13 => (let ⟨g, y1, y2, z0⟩ := hJ.r24 h1 h13; ⟨g, y1, Nat.lt_of_lt_of_le y2 hb7.size, (hb7.cell (p := ⟨g, 0, none⟩) y2).trans z0⟩), r25 := fun h => (by rw [show don dd _ 13 = dd 13 from rfl, h13] at h; cases h), v3 := hJ.v3 }
      · refine ⟨fun s hs => by cases hs <;> decide, ?_⟩
        rintro dd val W hJ hd hdep hcl K hK
        rw [if_pos (by rfl)]
        dsimp only [putF, List.foldl, Act.put] at hK ⊢
        simp only [List.setIfInBounds_toArray, List.set_cons_zero, List.set_cons_succ] at hK ⊢
        go_simp
        exact hK.out _ _ { fb := hJ.fb, fb2 := hJ.fb2, n3 := hJ.n3, v12 := hJ.v12, v13 := hJ.v13, v14 := hJ.v14, v15 := hJ.v15, v16 := fun _ => rfl, v17 := hJ.v17, v18 := hJ.v18, v19 := hJ.v19, v21 := hJ.v21, v23 := hJ.v23, r20 := hJ.r20, r22 := hJ.r22, r24 := hJ.r24, r25 := hJ.r25, v3 := hJ.v3 }
      · refine ⟨fun s hs => by cases hs <;> decide, ?_⟩
        rintro dd val W hJ hd hdep hcl K hK
        rw [if_pos (by rfl)]
        dsimp only [putF, List.foldl, Act.put] at hK ⊢
        simp only [List.setIfInBounds_toArray, List.set_cons_zero, List.set_cons_succ] at hK ⊢
        have h13 : dd 13 = false := by
          cases h : dd 13 with
          | false => rfl
          | true =>
            have c13 := h
            have c12 := hcl 13 _ rfl c13 ⟨12, .data⟩ (by simp) rfl
            have c11 := hcl 12 _ rfl c12 ⟨11, .data⟩ (by simp) rfl
            have c10 := hcl 11 _ rfl c11 ⟨10, .data⟩ (by simp) rfl
            have c9 := hcl 10 _ rfl c10 ⟨9, .data⟩ (by simp) rfl
            have c5 := hcl 9 _ rfl c9 ⟨5, .data⟩ (by simp) rfl
            rw [hd] at c5; cases c5
        have e16 := hJ.v16 (hdep ⟨4, .data⟩ (by simp) rfl)
        simp only [e16] at hK ⊢
        have q1 := (HC.out W (hJ.fb h13)).2.1
        go_simp
        exact hK.out _ _ { fb := hJ.fb, fb2 := hJ.fb2, n3 := hJ.n3, v12 := hJ.v12, v13 := hJ.v13, v14 := hJ.v14, v15 := hJ.v15, v16 := hJ.v16, v17 := fun _ => rfl, v18 := hJ.v18, v19 := hJ.v19, v21 := hJ.v21, v23 := hJ.v23, r20 := hJ.r20, r22 := hJ.r22, r24 := hJ.r24, r25 := hJ.r25, v3 := hJ.v3 }
      · refine ⟨fun s hs => by cases hs <;> decide, ?_⟩
        rintro dd val W hJ hd hdep hcl K hK
        rw [if_pos (by rfl)]
        dsimp only [putF, List.foldl, Act.put] at hK ⊢
        simp only [List.setIfInBounds_toArray, List.set_cons_zero, List.set_cons_succ] at hK ⊢
        go_simp
        exact hK.out _ _ { fb := hJ.fb, fb2 := hJ.fb2, n3 := hJ.n3, v12 := hJ.v12, v13 := hJ.v13, v14 := hJ.v14, v15 := hJ.v15, v16 := hJ.v16, v17 := hJ.v17, v18 := fun _ => rfl, v19 := hJ.v19, v21 := hJ.v21, v23 := hJ.v23, r20 := hJ.r20, r22 := hJ.r22, r24 := hJ.r24, r25 := hJ.r25, v3 := hJ.v3 }
      · refine ⟨fun s hs => by cases hs <;> decide, ?_⟩
        rintro dd val W hJ hd hdep hcl K hK
        rw [if_pos (by rfl)]
        dsimp only [putF, List.foldl, Act.put] at hK ⊢
        simp only [List.setIfInBounds_toArray, List.set_cons_zero, List.set_cons_succ] at hK ⊢
        have h13 : dd 13 = false := by
          cases h : dd 13 with
          | false => rfl
          | true =>
            have c13 := h
            have c12 := hcl 13 _ rfl c13 ⟨12, .data⟩ (by simp) rfl
            have c11 := hcl 12 _ rfl c12 ⟨11, .data⟩ (by simp) rfl
            have c10 := hcl 11 _ rfl c11 ⟨10, .data⟩ (by simp) rfl
            have c9 := hcl 10 _ rfl c10 ⟨9, .data⟩ (by simp) rfl
            have c8 := hcl 9 _ rfl c9 ⟨8, .data⟩ (by simp) rfl
            have c7 := hcl 8 _ rfl c8 ⟨7, .data⟩ (by simp) rfl
            rw [hd] at c7; cases c7
        have e18 := hJ.v18 (hdep ⟨6, .data⟩ (by simp) rfl)
        simp only [e18] at hK ⊢
        have q2 := (HC.out W (hJ.fb h13)).2.2
        go_simp
        exact hK.out _ _ { fb := hJ.fb, fb2 := hJ.fb2, n3 := hJ.n3, v12 := hJ.v12, v13 := hJ.v13, v14 := hJ.v14, v15 := hJ.v15, v16 := hJ.v16, v17 := hJ.v17, v18 := hJ.v18, v19 := fun _ => rfl, v21 := hJ.v21, v23 := hJ.v23, r20 := hJ.r20, r22 := hJ.r22, r24 := hJ.r24, r25 := hJ.r25, v3 := hJ.v3 }
      · refine ⟨fun s hs => by cases hs <;> decide, ?_⟩
        rintro dd val W hJ hd hdep hcl K hK
        rw [if_pos (by rfl)]
        dsimp only [putF, List.foldl, Act.put] at hK ⊢
        simp only [List.setIfInBounds_toArray, List.set_cons_zero, List.set_cons_succ] at hK ⊢
        have h13 : dd 13 = false := by
          cases h : dd 13 with
          | false => rfl
          | true =>
            have c13 := h
            have c12 := hcl 13 _ rfl c13 ⟨12, .data⟩ (by simp) rfl
            have c11 := hcl 12 _ rfl c12 ⟨11, .data⟩ (by simp) rfl
            have c10 := hcl 11 _ rfl c11 ⟨10, .data⟩ (by simp) rfl
            have c9 := hcl 10 _ rfl c10 ⟨9, .data⟩ (by simp) rfl
            have c8 := hcl 9 _ rfl c9 ⟨8, .data⟩ (by simp) rfl
            rw [hd] at c8; cases c8
        have e19 := hJ.v19 (hdep ⟨7, .data⟩ (by simp) rfl)
        simp only [e19] at hK ⊢
        go_simp
        have hb7 : Below W.heap.size W (W.alloc (.cells #[.string v] 9)) := (Below.refl _ _).alloc (Nat.le_refl _) _
        have hb13 := hJ.fb h13
        exact hK.out _ _ { fb := fun _ => hb13.trans (hb7.mono hb13.size), fb2 := hJ.fb2.trans (hb7.mono (by have := hb13.size; omega)), n3 := hJ.n3, v12 := hJ.v12, v13 := hJ.v13, v14 := hJ.v14, v15 := hJ.v15, v16 := hJ.v16, v17 := hJ.v17, v18 := hJ.v18, v19 := hJ.v19, v21 := hJ.v21, v23 := hJ.v23, r20 := fun _ _ => ⟨W.heap.size, rfl, by simp, by rw [World.cell?_alloc_new]; rfl⟩, r22 := fun h1 h13 => (let ⟨g, y1, y2, z0, z1⟩ := hJ.r22 h1 h13; ⟨g, y1, Nat.lt_of_lt_of_le y2 hb7.size, (hb7.cell (p := ⟨g, 0, none⟩) y2).trans z0, (hb7.cell (p := ⟨g, 1, none⟩) y2).trans z1⟩), r24 := fun h1 h13 => (let ⟨g, y1, y2, z0⟩ := hJ.r24 h1 h13; ⟨g, y1, Nat.lt_of_lt_of_le y2 hb7.size, (hb7.cell (p := ⟨g, 0, none⟩) y2).trans z0⟩), r25 := fun h => (by rw [show don dd _ 13 = dd 13 from rfl, h13] at h; cases h), v3 := hJ.v3 }
      · refine ⟨fun s hs => by cases hs <;> decide, ?_⟩
        rintro dd val W hJ hd hdep hcl K hK
        rw [if_pos (by rfl)]
        dsimp only [putF, List.foldl, Act.put] at hK ⊢
        simp only [List.setIfInBounds_toArray, List.set_cons_zero, List.set_cons_succ] at hK ⊢
        have h13 : dd 13 = false := by
          cases h : dd 13 with
          | false => rfl
          | true =>
            have c13 := h
            have c12 := hcl 13 _ rfl c13 ⟨12, .data⟩ (by simp) rfl
            have c11 := hcl 12 _ rfl c12 ⟨11, .data⟩ (by simp) rfl
            have c10 := hcl 11 _ rfl c11 ⟨10, .data⟩ (by simp) rfl
            have c9 := hcl 10 _ rfl c10 ⟨9, .data⟩ (by simp) rfl
            rw [hd] at c9; cases c9
        have e17 := hJ.v17 (hdep ⟨5, .data⟩ (by simp) rfl)
        obtain ⟨g20, y1, y2, y3⟩ := hJ.r20 (hdep ⟨8, .data⟩ (by simp) rfl) h13
        simp only [e17, y1] at hK ⊢
        go_simp
        refine (HWK.out W g20 y2 y3).mono ?_
        rintro e9 w7 ⟨rfl, hb7⟩
        have hb13 := hJ.fb h13
        go_wp2_with fail
        exact hK.out _ _ { fb := fun _ => hb13.trans (hb7.mono hb13.size), fb2 := hJ.fb2.trans (hb7.mono (by have := hb13.size; omega)), n3 := hJ.n3, v12 := hJ.v12, v13 := hJ.v13, v14 := hJ.v14, v15 := hJ.v15, v16 := hJ.v16, v17 := hJ.v17, v18 := hJ.v18, v19 := hJ.v19, v21 := fun _ => rfl, v23 := hJ.v23, r20 := fun h1 h13 => (let ⟨g, y1, y2, z0⟩ := hJ.r20 h1 h13; ⟨g, y1, Nat.lt_of_lt_of_le y2 hb7.size, (hb7.cell (p := ⟨g, 0, none⟩) y2).trans z0⟩), r22 := fun h1 h13 => (let ⟨g, y1, y2, z0, z1⟩ := hJ.r22 h1 h13; ⟨g, y1, Nat.lt_of_lt_of_le y2 hb7.size, (hb7.cell (p := ⟨g, 0, none⟩) y2).trans z0, (hb7.cell (p := ⟨g, 1, none⟩) y2).trans z1⟩), r24 := fun h1 h13 => (let ⟨g, y1, y2, z0⟩ := hJ.r24 h1 h13; ⟨g, y1, Nat.lt_of_lt_of_le y2 hb7.size, (hb7.cell (p := ⟨g, 0, none⟩) y2).trans z0⟩), r25 := fun h => (by rw [show don dd _ 13 = dd 13 from rfl, h13] at h; cases h), v3 := hJ.v3 }
      · refine ⟨fun s hs => by cases hs <;> decide, ?_⟩
        rintro dd val W hJ hd hdep hcl K hK
        rw [if_pos (by rfl)]
        dsimp only [putF, List.foldl, Act.put] at hK ⊢
        simp only [List.setIfInBounds_toArray, List.set_cons_zero, List.set_cons_succ] at hK ⊢
        have h13 : dd 13 = false := by
          cases h : dd 13 with
          | false => rfl
          | true =>
            have c13 := h
            have c12 := hcl 13 _ rfl c13 ⟨12, .data⟩ (by simp) rfl
            have c11 := hcl 12 _ rfl c12 ⟨11, .data⟩ (by simp) rfl
            have c10 := hcl 11 _ rfl c11 ⟨10, .data⟩ (by simp) rfl
            rw [hd] at c10; cases c10
        have e15 := hJ.v15 (hdep ⟨3, .data⟩ (by simp) rfl)
        have e21 := hJ.v21 (hdep ⟨9, .data⟩ (by simp) rfl)
        simp only [e15, e21] at hK ⊢
        go_simp
        have hb7 : Below W.heap.size W (W.alloc (.cells #[.string oid, .string wv] 9)) := (Below.refl _ _).alloc (Nat.le_refl _) _
        have hb13 := hJ.fb h13
        exact hK.out _ _ { fb := fun _ => hb13.trans (hb7.mono hb13.size), fb2 := hJ.fb2.trans (hb7.mono (by have := hb13.size; omega)), n3 := hJ.n3, v12 := hJ.v12, v13 := hJ.v13, v14 := hJ.v14, v15 := hJ.v15, v16 := hJ.v16, v17 := hJ.v17, v18 := hJ.v18, v19 := hJ.v19, v21 := hJ.v21, v23 := hJ.v23, r20 := fun h1 h13 => (let ⟨g, y1, y2, z0⟩ := hJ.r20 h1 h13; ⟨g, y1, Nat.lt_of_lt_of_le y2 hb7.size, (hb7.cell (p := ⟨g, 0, none⟩) y2).trans z0⟩), r22 := fun _ _ => ⟨W.heap.size, rfl, by simp, by rw [World.cell?_alloc_new]; rfl, by rw [World.cell?_alloc_new]; rfl⟩, r24 := fun h1 h13 => (let ⟨g, y1, y2, z0⟩ := hJ.r24 h1 h13; ⟨g, y1, Nat.lt_of_lt_of_le y2 hb7.size, (hb7.cell (p := ⟨g, 0, none⟩) y2).trans z0⟩), r25 := fun h => (by rw [show don dd _ 13 = dd 13 from rfl, h13] at h; cases h), v3 := hJ.v3 }
      · refine ⟨fun s hs => by cases hs <;> decide, ?_⟩
        rintro dd val W hJ hd hdep hcl K hK
        rw [if_pos (by rfl)]
        dsimp only [putF, List.foldl, Act.put] at hK ⊢
        simp only [List.setIfInBounds_toArray, List.set_cons_zero, List.set_cons_succ] at hK ⊢
        have h13 : dd 13 = false := by
          cases h : dd 13 with
          | false => rfl
          | true =>
            have c13 := h
            have c12 := hcl 13 _ rfl c13 ⟨12, .data⟩ (by simp) rfl
            have c11 := hcl 12 _ rfl c12 ⟨11, .data⟩ (by simp) rfl
            rw [hd] at c11; cases c11
        obtain ⟨g22, y1, y2, y3, y4⟩ := hJ.r22 (hdep ⟨10, .data⟩ (by simp) rfl) h13
        simp only [y1] at hK ⊢
        go_simp
        refine (HW48.out W g22 y2 y3 y4).mono ?_
        rintro e9 w7 ⟨rfl, hb7⟩
        have hb13 := hJ.fb h13
        go_wp2_with fail
        exact hK.out _ _ { fb := fun _ => hb13.trans (hb7.mono hb13.size), fb2 := hJ.fb2.trans (hb7.mono (by have := hb13.size; omega)), n3 := hJ.n3, v12 := hJ.v12, v13 := hJ.v13, v14 := hJ.v14, v15 := hJ.v15, v16 := hJ.v16, v17 := hJ.v17, v18 := hJ.v18, v19 := hJ.v19, v21 := hJ.v21, v23 := fun _ => rfl, r20 := fun h1 h13 => (let ⟨g, y1, y2, z0⟩ := hJ.r20 h1 h13; ⟨g, y1, Nat.lt_of_lt_of_le y2 hb7.size, (hb7.cell (p := ⟨g, 0, none⟩) y2).trans z0⟩), r22 := fun h1 h13 => (let ⟨g, y1, y2, z0, z1⟩ := hJ.r22 h1 h13; ⟨g, y1, Nat.lt_of_lt_of_le y2 hb7.size, (hb7.cell (p := ⟨g, 0, none⟩) y2).trans z0, (hb7.cell (p := ⟨g, 1, none⟩) y2).trans z1⟩), r24 := fun h1 h13 => (let ⟨g, y1, y2, z0⟩ := hJ.r24 h1 h13; ⟨g, y1, Nat.lt_of_lt_of_le y2 hb7.size, (hb7.cell (p := ⟨g, 0, none⟩) y2).trans z0⟩), r25 := fun h => (by rw [show don dd _ 13 = dd 13 from rfl, h13] at h; cases h), v3 := hJ.v3 }
      · refine ⟨fun s hs => by cases hs <;> decide, ?_⟩
        rintro dd val W hJ hd hdep hcl K hK
        rw [if_pos (by rfl)]
        dsimp only [putF, List.foldl, Act.put] at hK ⊢
        simp only [List.setIfInBounds_toArray, List.set_cons_zero, List.set_cons_succ] at hK ⊢
        have h13 : dd 13 = false := by
          cases h : dd 13 with
          | false => rfl
          | true =>
            have c13 := h
            have c12 := hcl 13 _ rfl c13 ⟨12, .data⟩ (by simp) rfl
            rw [hd] at c12; cases c12
        have e23 := hJ.v23 (hdep ⟨11, .data⟩ (by simp) rfl)
        simp only [e23] at hK ⊢
        go_simp
        have hb7 : Below W.heap.size W (W.alloc (.cells #[.string e] 9)) := (Below.refl _ _).alloc (Nat.le_refl _) _
        have hb13 := hJ.fb h13
        exact hK.out _ _ { fb := fun _ => hb13.trans (hb7.mono hb13.size), fb2 := hJ.fb2.trans (hb7.mono (by have := hb13.size; omega)), n3 := hJ.n3, v12 := hJ.v12, v13 := hJ.v13, v14 := hJ.v14, v15 := hJ.v15, v16 := hJ.v16, v17 := hJ.v17, v18 := hJ.v18, v19 := hJ.v19, v21 := hJ.v21, v23 := hJ.v23, r20 := fun h1 h13 => (let ⟨g, y1, y2, z0⟩ := hJ.r20 h1 h13; ⟨g, y1, Nat.lt_of_lt_of_le y2 hb7.size, (hb7.cell (p := ⟨g, 0, none⟩) y2).trans z0⟩), r22 := fun h1 h13 => (let ⟨g, y1, y2, z0, z1⟩ := hJ.r22 h1 h13; ⟨g, y1, Nat.lt_of_lt_of_le y2 hb7.size, (hb7.cell (p := ⟨g, 0, none⟩) y2).trans z0, (hb7.cell (p := ⟨g, 1, none⟩) y2).trans z1⟩), r24 := fun _ _ => ⟨W.heap.size, rfl, by simp, by rw [World.cell?_alloc_new]; rfl⟩, r25 := fun h => (by rw [show don dd _ 13 = dd 13 from rfl, h13] at h; cases h), v3 := hJ.v3 }
      · refine ⟨fun s hs => by cases hs <;> decide, ?_⟩
        rintro dd val W hJ hd hdep hcl K hK
        rw [if_pos (by rfl)]
        dsimp only [putF, List.foldl, Act.put] at hK ⊢
        simp only [List.setIfInBounds_toArray, List.set_cons_zero, List.set_cons_succ] at hK ⊢
        have e12 := hJ.v12 (hdep ⟨0, .data⟩ (by simp) rfl)
        obtain ⟨g24, y1, y2, y3⟩ := hJ.r24 (hdep ⟨12, .data⟩ (by simp) rfl) hd
        have hb13 := hJ.fb hd
        simp only [e12, y1] at hK ⊢
        refine wp_apps RStr.ok W (.tmp 12) (.tmp 24) 38 rfl base 9 (.string ⟨#[]⟩) 16 Tryz.underlying38 info_str rfl (by decide) No (.slice A2 out.length c2) out rfl (HOWN.out.below RStr.ok (no_lt _) hb13) (.slice (some ⟨g24, 0, none⟩) 1 1) [e.data.toList] rfl (.inr ⟨⟨g24, 0, none⟩, 1, 1, rfl, rfl, fun i y hy => ⟨strC e.data.toList, by
          match i, hy with
          | 0, hy => simp at hy; subst hy; rfl, fun j u hu => by
          match i, hy, j, hu with
          | 0, _, 0, hu =>
            simp [strC] at hu
            subst hu
            simpa [Addr.add_lit] using y3⟩⟩) (no_lt _) (by simp; omega) (by simp [maxLen]; omega) (by have := hb13.size; omega) ?_
        intro v7 w7 hown7 hgr7 hb7 hat7
        exact hK.out _ _ { fb := fun h => (by cases h), fb2 := hJ.fb2.trans hb7, n3 := hJ.n3, v12 := hJ.v12, v13 := hJ.v13, v14 := hJ.v14, v15 := hJ.v15, v16 := hJ.v16, v17 := hJ.v17, v18 := hJ.v18, v19 := hJ.v19, v21 := hJ.v21, v23 := hJ.v23, r20 := fun _ h => (by cases h), r22 := fun _ h => (by cases h), r24 := fun _ h => (by cases h), r25 := fun _ => hown7, v3 := fun h => (by have c13 := hcl 14 _ rfl h ⟨13, .data⟩ (by simp) rfl; rw [hd] at c13; cases c13) }
      · refine ⟨fun s hs => by cases hs <;> decide, ?_⟩
        rintro dd val W hJ hd hdep hcl K hK
        rw [if_pos (by rfl)]
        dsimp only [putF, List.foldl, Act.put] at hK ⊢
        simp only [List.setIfInBounds_toArray, List.set_cons_zero, List.set_cons_succ] at hK ⊢
        go_simp
        exact hK.out _ _ { fb := hJ.fb, fb2 := hJ.fb2, n3 := fun h => (by cases h), v12 := hJ.v12, v13 := hJ.v13, v14 := hJ.v14, v15 := hJ.v15, v16 := hJ.v16, v17 := hJ.v17, v18 := hJ.v18, v19 := hJ.v19, v21 := hJ.v21, v23 := hJ.v23, r20 := hJ.r20, r22 := hJ.r22, r24 := hJ.r24, r25 := hJ.r25, v3 := fun _ => rfl }
      · intro dd val W hall hJ
        have hown := hJ.r25 (hall 13 (by decide))
        have e3 := hJ.v3 (hall 14 (by decide))
        have hbw := hJ.fb2
        obtain ⟨v8, hv8⟩ : ∃ v, val 25 = v := ⟨_, rfl⟩
        rw [hv8] at hown e3
        dsimp only [putF, List.foldl, Act.put]
        simp only [List.setIfInBounds_toArray, List.set_cons_zero, List.set_cons_succ, hv8, e3]
        have HF := hide hown
        have hzW := hbw.size
        have HBW := hide (HB1.out.trans (hbw.mono hbs1))
        clear hown hbw
        go_wp2_with fail
        go_roundw
        case rel => exact ⟨k + 1, out ++ [e.data.toList], by omega, by go_num, by simp [HLK.out], HF.out, HBW.out, by omega, by
          rw [List.take_succ_eq_append_getElem hlt, List.map_append, ← HOUT.out, List.map_cons, List.map_nil, HEA.out]⟩
        case measure => simp [intOf]; omega
    · have hkl : k = l.length := by omega
      have hsl := (Sl.ok RStr.ok).mono (hown.sl RStr.ok) (S' := Btw w.heap.size wr.heap.size) (fun _ _ => rfl) (fun j hj => by rcases hj with hj | hj; exact hj.elim; exact ⟨by omega, hj.2⟩)
      obtain ⟨A3, c3, hv⟩ := hsl.shape
      subst hv
      have HSLr := hide (show Sl RStr 1 wr (Btw w.heap.size wr.heap.size) (l.map encA) [.slice A3 out.length c3] by
        rw [List.take_of_length_le (by omega)] at hout
        rw [← hout]; exact hsl)
      have HLL := hide (show out.length = l.length by omega)
      clear hown hol hout hsl hb hkl
      go_wp2_with fail
      go_ret
      exact ⟨A3, c3, by rw [HLL.out]; rfl, HLL.out ▸ HSLr.out, HB.out⟩
end Go.Proofs.YtmgnihmjjijdoaaGreatDoor
