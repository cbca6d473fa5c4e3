/- A region that draws its order, by a condition that every operation keeps. -/
import Derived.Test.YtmgnihmjjijdoaaDoorKLib
import Derived.Deep.RegionHeld3
namespace Go.Proofs.YtmgnihmjjijdoaaDoor
open Go.RowKit
def don (d : Nat → Bool) (i : Nat) : Nat → Bool := fun j => if j = i then true else d j
def acyc (ops : Array Oper) : Bool := (List.range ops.size).all fun i => match ops[i]? with | some o => o.after.toList.all (fun e => !Region.binds .any e || decide (e.on < i)) | none => true
def leftN (l : Array Bool) : Nat := ((List.range l.size).filter fun i => !l.getD i false).length
theorem getD_set (l : Array Bool) (i j : Nat) (hi : i < l.size) : (l.setIfInBounds i true).getD j false = don (fun k => l.getD k false) i j := by
 unfold don
 simp only [Array.getD_eq_getD_getElem?, Array.getElem?_setIfInBounds]
 by_cases h : i = j
 ·subst h; simp [hi]
 ·rw [if_neg h, if_neg (Ne.symm h)]
theorem leftN_set (l : Array Bool) (i : Nat) (hi : i < l.size) (hf : l.getD i false = false) : leftN (l.setIfInBounds i true) < leftN l := by
 unfold leftN
 rw [Array.size_setIfInBounds]
 have hsub : ((List.range l.size).filter fun k => !(l.setIfInBounds i true).getD k false) = ((List.range l.size).filter fun k => !l.getD k false).filter (fun k => !(k == i)) := by
  rw [List.filter_filter]
  refine List.filter_congr (fun k _ => ?_)
  rw [getD_set l i k hi]
  unfold don
  by_cases h : k = i
  ·simp [h]
  ·simp [h]
 rw [hsub]
 exact List.length_filter_lt_length_iff_exists.2 ⟨i, by rw [List.mem_filter]; exact ⟨List.mem_range.2 hi, by rw [hf]; rfl⟩, by simp⟩
section
variable {P : Program} {ops : Array Oper} {Q : Exit → Act → World → Prop} {I : (Nat → Bool) → Act → World → Prop}
theorem ready_all (hac : acyc ops = true) (l : Array Bool) (hs : l.size = ops.size) (hr : Region.ready .any ops l = []) : ∀ i, i < ops.size → l.getD i false = true := by
  intro i
  induction i using Nat.strongRecOn with
  | ind i ih =>
    intro hi
    have h1 := List.filter_eq_nil_iff.1 hr i (List.mem_range.2 hi)
    have ho : ops[i]? = some ops[i] := Array.getElem?_eq_getElem hi
    have hall := List.all_eq_true.1 hac i (List.mem_range.2 hi)
    rw [ho] at h1 hall
    simp only [Option.map_some, Option.getD_some, Bool.and_eq_true, Bool.not_eq_true', not_and] at h1
    have hd : (ops[i].after.all fun e => !Region.binds .any e || l.getD e.on false) = true := by
      rw [← Array.all_toList, List.all_eq_true]
      intro e he
      have h9 := List.all_eq_true.1 hall e he
      cases hb : Region.binds .any e with
      | false => rfl
      | true =>
        rw [hb] at h9
        have hlt : e.on < i := of_decide_eq_true (by simpa using h9)
        rw [ih e.on hlt (by omega), Bool.or_true]
    have h2 : l.getD i true = true := by
      cases hb : l.getD i true with
      | true => rfl
      | false => exact absurd hd (h1 hb)
    rw [Array.getD_eq_getD_getElem?, Array.getElem?_eq_getElem (by omega)] at h2 ⊢
    exact h2
theorem wpAny_inv (hac : acyc ops = true)
    (hstep : ∀ (d : Nat → Bool) (a : Act) (w : World), I d a w → ∀ (i : Nat) (o : Oper), ops[i]? = some o → d i = false → (∀ e ∈ o.after.toList, Region.binds .any e = true → d e.on = true) → ∀ K : Act → World → Prop, Shut (∀ a w, I (don d i) a w → K a w) → if Region.wanted o (yielded ops a.tmps) = true then Oper.wp P o a w K Q else K (a.put o.dst undef) w)
    (hend : ∀ (d : Nat → Bool) (a : Act) (w : World), (∀ i, i < ops.size → d i = true) → I d a w → Q .normal a w) :
    ∀ (fuel : Nat) (l : Array Bool) (a : Act) (w : World), l.size = ops.size → leftN l ≤ fuel → I (fun i => l.getD i false) a w → wpAny P .any ops Q fuel l a w := by
  intro fuel
  induction fuel with
  | zero =>
    intro l a w hs hl hI
    have hnil : (List.range l.size).filter (fun i => !l.getD i false) = [] := List.eq_nil_of_length_eq_zero (Nat.le_zero.1 hl)
    have hall : ∀ i, i < ops.size → l.getD i false = true := fun i hi => by
      have := List.filter_eq_nil_iff.1 hnil i (List.mem_range.2 (by omega))
      simpa using this
    refine ⟨?_, hend _ a w hall hI⟩
    unfold Region.ready
    refine List.filter_eq_nil_iff.2 (fun i hi => ?_)
    have hi' := List.mem_range.1 hi
    have h := hall i hi'
    rw [Array.getD_eq_getD_getElem?, Array.getElem?_eq_getElem (by omega)] at h
    rw [Array.getD_eq_getD_getElem?, Array.getElem?_eq_getElem (by omega)]
    simp only [Option.getD_some] at h ⊢
    rw [h]
    simp
  | succ fuel ih =>
    intro l a w hs hl hI
    refine ⟨fun hr => hend _ a w (ready_all hac l hs hr) hI, fun i hi => ?_⟩
    unfold Region.ready at hi
    rw [List.mem_filter, List.mem_range, Bool.and_eq_true] at hi
    obtain ⟨hi1, hi2, hi3⟩ := hi
    have ho : ops[i]? = some ops[i] := Array.getElem?_eq_getElem hi1
    have hf : l.getD i false = false := by
      rw [Array.getD_eq_getD_getElem?, Array.getElem?_eq_getElem (by omega)] at hi2 ⊢
      simpa using hi2
    rw [ho, Option.map_some, Option.getD_some, ← Array.all_toList, List.all_eq_true] at hi3
    refine wpOp_step ho (fun K' hK => ?_)
    refine hstep _ a w hI i _ ho hf (fun e he hb => ?_) K' (fun a' w' hI' => hK a' w' ?_)
    · have := hi3 e he
      rw [hb] at this
      simpa using this
    · refine ih _ a' w' (by rw [Array.size_setIfInBounds]; exact hs) ?_ ?_
      · have := leftN_set l i (by omega) hf
        omega
      · rw [show (fun j => (l.setIfInBounds i true).getD j false) = don (fun k => l.getD k false) i from funext fun j => getD_set l i j (by omega)]
        exact hI'
theorem wp_region_inv {id : Nat} {a : Act} {w : World} (hm : P.follows .mixedOrders = true) (hac : acyc ops = true) (h0 : I (fun _ => false) a w.drew)
  (hstep : ∀ (d : Nat → Bool) (a : Act) (w : World), I d a w → ∀ (i : Nat) (o : Oper), ops[i]? = some o → d i = false → (∀ e ∈ o.after.toList, Region.binds .any e = true → d e.on = true) → ∀ K : Act → World → Prop, Shut (∀ a w, I (don d i) a w → K a w) → if Region.wanted o (yielded ops a.tmps) = true then Oper.wp P o a w K Q else K (a.put o.dst undef) w)
  (hend : ∀ (d : Nat → Bool) (a : Act) (w : World), (∀ i, i < ops.size → d i = true) → I d a w → Q .normal a w) : (Code.region id ops true).wp P Q a w :=
 wp_region_any hm (wpAny_inv hac hstep hend ops.size _ a w.drew (by simp) (by
  unfold leftN
  refine Nat.le_trans (List.length_filter_le _ _) ?_
  simp) (by
  have : (fun i => (Array.replicate ops.size false).getD i false) = fun _ : Nat => false := funext fun i => by
   rw [Array.getD_eq_getD_getElem?, Array.getElem?_replicate]
   split <;> rfl
  rw [this]
  exact h0))
end
def putF (a : Act) (ss : List Nat) (val : Nat → Value) : Act := ss.foldl (fun a s => a.put (some s) (val s)) a
def setv (val : Nat → Value) (dst : Option Nat) (v : Value) : Nat → Value := match dst with
 | some s => fun t => if t = s then v else val t
 | none => val
theorem putF_defers (ss : List Nat) (val : Nat → Value) : ∀ a : Act, (putF a ss val).defers = a.defers := by
 induction ss with
 | nil => intro a; rfl
 | cons s ss ih => intro a; exact ih _
theorem putF_size (ss : List Nat) (val : Nat → Value) : ∀ a : Act, (putF a ss val).tmps.size = a.tmps.size := by
 induction ss with
 | nil => intro a; rfl
 | cons s ss ih => intro a; exact (ih _).trans (by simp [Act.put])
theorem putF_get (ss : List Nat) (val : Nat → Value) (t : Nat) : ∀ a : Act, t < a.tmps.size → (putF a ss val).tmps[t]? = if t ∈ ss then some (val t) else a.tmps[t]? := by
  induction ss with
  | nil => intro a _; simp [putF]
  | cons s ss ih =>
    intro a ht
    have hsz : (a.put (some s) (val s)).tmps.size = a.tmps.size := by simp [Act.put]
    show (putF (a.put (some s) (val s)) ss val).tmps[t]? = _
    rw [ih _ (by rw [hsz]; exact ht)]
    by_cases hm : t ∈ ss
    · simp [hm]
    · rw [if_neg hm]
      simp only [Act.put, Array.getElem?_setIfInBounds]
      by_cases hs : s = t
      · subst hs; simp [ht]
      · rw [if_neg hs, if_neg (by simp [hm]; exact fun e => hs e.symm)]
theorem act_ext {a b : Act} (h1 : a.tmps.size = b.tmps.size) (h2 : ∀ t, t < a.tmps.size → a.tmps[t]? = b.tmps[t]?) (h3 : a.defers = b.defers) : a = b := by
 cases a; cases b
 simp only [Act.mk.injEq] at *
 refine ⟨?_, h3⟩
 apply Array.ext h1
 intro i hi hj
 have := h2 i hi
 rw [Array.getElem?_eq_getElem hi, Array.getElem?_eq_getElem hj] at this
 exact Option.some.inj this
theorem putF_self (a : Act) (ss : List Nat) : ∃ val, a = putF a ss val := by
 refine ⟨fun s => (a.tmps[s]?).getD undef, (act_ext (putF_size ss _ a) (fun t ht => ?_) (putF_defers ss _ a)).symm⟩
 rw [putF_size] at ht
 rw [putF_get ss _ t a ht]
 split
 ·rw [Array.getElem?_eq_getElem ht]; rfl
 ·rfl
theorem putF_put (a : Act) (ss : List Nat) (val : Nat → Value) (dst : Option Nat) (hd : ∀ s, dst = some s → s ∈ ss) (v : Value) : (putF a ss val).put dst v = putF a ss (setv val dst v) := by
  cases dst with
  | none => rfl
  | some s =>
    have hs := hd s rfl
    refine act_ext ?_ (fun t ht => ?_) ?_
    · simp [Act.put, putF_size]
    · have ht' : t < a.tmps.size := by simpa [Act.put, putF_size] using ht
      rw [putF_get ss _ t a ht']
      simp only [Act.put, Array.getElem?_setIfInBounds, putF_size, setv]
      by_cases h : s = t
      · subst h
        rw [if_pos rfl, if_pos ht', if_pos hs, if_pos rfl]
      · rw [if_neg h, putF_get ss _ t a ht']
        split
        · rw [if_neg (Ne.symm h)]
        · rfl
    · show (putF a ss val).defers = _
      rw [putF_defers, putF_defers]
section
variable {P : Program} {ops : Array Oper} {Q : Exit → Act → World → Prop}
def KeepsOp (P : Program) (ops : Array Oper) (Q : Exit → Act → World → Prop) (a0 : Act) (ss : List Nat) (J : (Nat → Bool) → (Nat → Value) → World → Prop) (k : Nat) (o : Oper) : Prop :=
 (∀ s, o.dst = some s → s ∈ ss) ∧ ∀ (d : Nat → Bool) (val : Nat → Value) (W : World), J d val W → d k = false → (∀ e ∈ o.after.toList, Region.binds .any e = true → d e.on = true) →
  ∀ K : Act → World → Prop, Shut (∀ v W', J (don d k) (setv val o.dst v) W' → K ((putF a0 ss val).put o.dst v) W') → if Region.wanted o (yielded ops (putF a0 ss val).tmps) = true then Oper.wp P o (putF a0 ss val) W K Q else K ((putF a0 ss val).put o.dst undef) W
def KeepsAll (P : Program) (ops : Array Oper) (Q : Exit → Act → World → Prop) (a0 : Act) (ss : List Nat) (J : (Nat → Bool) → (Nat → Value) → World → Prop) : Nat → List Oper → Prop
 | _, [] => True
 | k, o :: os => KeepsOp P ops Q a0 ss J k o ∧ KeepsAll P ops Q a0 ss J (k + 1) os
theorem keeps_get {a0 : Act} {ss : List Nat} {J : (Nat → Bool) → (Nat → Value) → World → Prop} : ∀ {l : List Oper} {k : Nat}, KeepsAll P ops Q a0 ss J k l → ∀ {j : Nat} {o : Oper}, l[j]? = some o → KeepsOp P ops Q a0 ss J (k + j) o
  | [], _, _, _, _, ho => by simp at ho
  | x :: l, k, h, 0, o, ho => by
    simp at ho; subst ho
    exact h.1
  | x :: l, k, h, j + 1, o, ho => by
    have := keeps_get h.2 (j := j) (o := o) (by simpa using ho)
    rwa [show k + 1 + j = k + (j + 1) by omega] at this
theorem region_inv {id : Nat} {a : Act} {w : World} (ss : List Nat) (J : (Nat → Bool) → (Nat → Value) → World → Prop) (hm : P.follows .mixedOrders = true) (hac : acyc ops = true)
  (h0 : ∀ val, J (fun _ => false) val w.drew) (hs : KeepsAll P ops Q a ss J 0 ops.toList)
  (hend : ∀ (d : Nat → Bool) (val : Nat → Value) (W : World), (∀ i, i < ops.size → d i = true) → J d val W → Q .normal (putF a ss val) W) : (Code.region id ops true).wp P Q a w := by
 refine wp_region_inv (I := fun d b W => ∃ val, b = putF a ss val ∧ J d val W) hm hac ?_ ?_ ?_
 ·obtain ⟨val, hv⟩ := putF_self a ss
  exact ⟨val, hv, h0 val⟩
 ·rintro d b W ⟨val, rfl, hJ⟩ i o ho hd hdep K hK
  have hk := keeps_get hs (j := i) (o := o) (by rw [← ho, Array.getElem?_toList])
  rw [Nat.zero_add] at hk
  refine hk.2 d val W hJ hd hdep K (fun v W' hJ' => hK.out _ _ ⟨setv val o.dst v, putF_put a ss val o.dst hk.1 v, hJ'⟩)
 ·rintro d b W hall ⟨val, rfl, hJ⟩
  exact hend d val W hall hJ
end
end Go.Proofs.YtmgnihmjjijdoaaDoor
