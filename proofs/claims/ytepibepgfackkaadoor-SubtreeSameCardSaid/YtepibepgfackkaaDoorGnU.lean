/- A number set into a row of numbers: 'append(l[:i:i], append([]int{k}, l[i:]...)...)'. -/
import Derived.Test.YtepibepgfackkaaDoorGnR
import Derived.ArgAppend
namespace Go.Proofs.YtepibepgfackkaaDoor
open Go.RowKit

theorem posK_lt : ∀ (l : List Int) (k : Int) (r : Nat), r < posK l k → ∃ h : r < l.length, l[r] < k
  | [], k, r, h => by simp [posK] at h
  | x :: l, k, r, h => by
    unfold posK at h
    by_cases hx : x < k
    · rw [List.takeWhile_cons_of_pos (by simpa using hx)] at h
      match r, h with
      | 0, _ => exact ⟨by simp, hx⟩
      | r + 1, h =>
        obtain ⟨h1, h2⟩ := posK_lt l k r (by unfold posK; simpa using h)
        exact ⟨by simpa using h1, by simpa using h2⟩
    · rw [List.takeWhile_cons_of_neg (by simpa using hx)] at h
      simp at h
theorem posK_at : ∀ (l : List Int) (k : Int) (h : posK l k < l.length), k ≤ l[posK l k]
  | [], k, h => by simp at h
  | x :: l, k, h => by
    by_cases hx : x < k
    · have hp : posK (x :: l) k = posK l k + 1 := by
        unfold posK
        rw [List.takeWhile_cons_of_pos (by simpa using hx)]
        simp
      have h1 : posK l k < l.length := by rw [hp] at h; simpa using h
      have h2 := posK_at l k h1
      simp only [hp, List.getElem_cons_succ]
      exact h2
    · have hp : posK (x :: l) k = 0 := by
        unfold posK
        rw [List.takeWhile_cons_of_neg (by simpa using hx)]
        simp
      simp only [hp, List.getElem_cons_zero]
      omega
theorem insK_new {l : List Int} {k : Int} (h : posK l k = l.length ∨ l.getD (posK l k) 0 ≠ k) : insK l k = l.take (posK l k) ++ k :: l.drop (posK l k) := if_pos h
theorem insK_old {l : List Int} {k : Int} (h : ¬ (posK l k = l.length ∨ l.getD (posK l k) 0 ≠ k)) : insK l k = l := if_neg h
theorem insK_len (l : List Int) (k : Int) : (insK l k).length ≤ l.length + 1 := by
  unfold insK
  split
  · have := posK_le l k
    simp; omega
  · omega
theorem limFold_len : ∀ (l : List Gen) (acc : List Int), (l.foldl limStep acc).length ≤ acc.length + l.length
  | [], acc => by simp
  | b :: l, acc => by
    have h := limFold_len l (limStep acc b)
    have h2 : (limStep acc b).length ≤ acc.length + 1 := by
      unfold limStep
      split
      · exact insK_len _ _
      · omega
    simp only [List.foldl_cons, List.length_cons]
    omega
theorem limAll_len : ∀ (st : List Sub) (acc : List Int), (∀ s ∈ st, s.1.length ≤ 4) → (st.foldl (fun l s => s.1.foldl limStep l) acc).length ≤ acc.length + 4 * st.length
  | [], acc, _ => by simp
  | s :: st, acc, h => by
    have h1 := limFold_len s.1 acc
    have h2 := h s (by simp)
    have h3 := limAll_len st (s.1.foldl limStep acc) (fun x hx => h x (by simp [hx]))
    simp only [List.foldl_cons, List.length_cons]
    omega
theorem addG_len (l : List Gen) (g : Gen) : (addG l g).length ≤ l.length + 1 := by
  unfold addG
  split
  · omega
  · simp
theorem exFold_len : ∀ (l acc : List Gen), (l.foldl addG acc).length ≤ acc.length + l.length
  | [], acc => by simp
  | b :: l, acc => by
    have h := exFold_len l (addG acc b)
    have h2 := addG_len acc b
    simp only [List.foldl_cons, List.length_cons]
    omega
theorem exFold_good : ∀ (l acc : List Gen), GoodBs acc → GoodBs l → GoodBs (l.foldl addG acc)
  | [], _, ha, _ => ha
  | b :: l, acc, ha, hl => exFold_good l (addG acc b) (addG_good ha (hl b (by simp))) (fun x hx => hl x (by simp [hx]))
theorem exAll_both : ∀ (st : List Sub) (acc : List Gen), GoodBs acc → (∀ s ∈ st, s.2.length ≤ 4 ∧ GoodBs s.2) → GoodBs (st.foldl (fun l s => s.2.foldl addG l) acc) ∧ (st.foldl (fun l s => s.2.foldl addG l) acc).length ≤ acc.length + 4 * st.length
  | [], acc, ha, _ => ⟨ha, by simp⟩
  | s :: st, acc, ha, h => by
    obtain ⟨h1, h2⟩ := h s (by simp)
    have h3 := exFold_len s.2 acc
    obtain ⟨h4, h5⟩ := exAll_both st (s.2.foldl addG acc) (exFold_good s.2 acc ha h2) (fun x hx => h x (by simp [hx]))
    refine ⟨h4, ?_⟩
    simp only [List.foldl_cons, List.length_cons]
    omega
theorem GoodBs.small {l : List Gen} (h : GoodBs l) : SmallGs l := fun g hg => (h g hg).small

/-- a row of one number that the call has just built -/
theorem own_one {e : TypeId} {w : World} {base : Nat} (hbase : base ≤ w.heap.size) (k : Int) : Own RInt 1 e (w.alloc (.cells #[.int .i64 k] e)) base No (.slice (some ⟨w.heap.size, 0, none⟩) 1 1) [k] := by
  refine ⟨[.int .i64 k], ⟨rfl, .inr ⟨w.heap.size, 1, #[.int .i64 k], rfl, hbase, heap_alloc_new w _, Nat.le_refl _, by simp [maxLen], rfl, rfl⟩⟩, fun g _ hg => hg.elim, fun i y hy => ?_⟩
  match i, hy with
  | 0, hy =>
    simp at hy; subst hy
    exact ⟨[.int .i64 k], rfl, fun j u hu => by simpa using hu⟩

/-- the rest of a row, from number i on -/
theorem rest_src {T : TypeId} {w : World} {base : Nat} {L : Option Addr} {cl i : Nat} {l : List Int} (h : Own RInt 1 T w base No (.slice L l.length cl) l) (hi : i ≤ l.length) :
    Src RInt 1 w No (.slice (if cl = i then L else L.map (·.add (i * 1))) (l.length - i) (cl - i)) (l.drop i) := by
  have h' := h
  obtain ⟨xs, ⟨hl, h1⟩, h2, h3⟩ := h
  rcases h1 with ⟨hv, hn⟩ | ⟨g, cap, cur, hv, hb, hg, hnc, r⟩
  · simp only [Value.slice.injEq] at hv
    obtain ⟨rfl, -, rfl⟩ := hv
    have hi0 : i = 0 := by omega
    subst hi0
    exact .inl ⟨by simp [hn], by rw [List.eq_nil_of_length_eq_zero hn]; rfl⟩
  · cases hv
    by_cases hc : cl = i
    · rw [if_pos hc]
      have : l.drop i = [] := List.drop_of_length_le (by omega)
      rw [this]
      exact .inr ⟨⟨g, 0, none⟩, l.length - i, cl - i, rfl, by simp; omega, fun j y hy => by simp at hy⟩
    · rw [if_neg hc]
      refine .inr ⟨⟨g, i, none⟩, l.length - i, cl - i, by simp [Addr.add_lit], by simp, fun j y hy => ?_⟩
      rw [List.getElem?_drop] at hy
      obtain ⟨hj, rfl⟩ := List.getElem?_eq_some_iff.1 hy
      obtain ⟨g', cap', ys, hv', _, _, _, _, hr, hcell, _⟩ := h'.at_ hj
      cases hv'
      have hr' : ys = intC l[i + j] := hr
      subst hr'
      refine ⟨_, rfl, fun u v hu => ?_⟩
      have := hcell u v hu
      rw [Addr.add_lit]
      rw [show i + (j * 1 + u) = (i + j) * 1 + u by omega]
      simpa using this
/-- the beginning of a row, without room behind it: what 'append' makes of it -/
def Pre (w : World) (L : Option Addr) (l : List Int) : Prop := (L = none ∧ l = []) ∨ ∃ ad, L = some ad ∧ ∀ i y, l[i]? = some y → w.cell? (ad.add i) = some (.int .i64 y)
theorem pre_of {T : TypeId} {w : World} {base : Nat} {L : Option Addr} {cl i : Nat} {l : List Int} (h : Own RInt 1 T w base No (.slice L l.length cl) l) (_hi : i ≤ l.length) : Pre w L (l.take i) := by
  have h' := h
  obtain ⟨xs, ⟨hl, h1⟩, h2, h3⟩ := h
  rcases h1 with ⟨hv, hn⟩ | ⟨g, cap, cur, hv, hb, hg, hnc, r⟩
  · simp only [Value.slice.injEq] at hv
    obtain ⟨rfl, -, rfl⟩ := hv
    exact .inl ⟨rfl, by rw [List.eq_nil_of_length_eq_zero hn]; simp⟩
  · cases hv
    refine .inr ⟨_, rfl, fun j y hy => ?_⟩
    rw [List.getElem?_take] at hy
    split at hy
    · obtain ⟨hj, rfl⟩ := List.getElem?_eq_some_iff.1 hy
      obtain ⟨g', cap', ys, hv', _, _, _, _, hr, hcell, _⟩ := h'.at_ hj
      cases hv'
      have hr' : ys = intC l[j] := hr
      subst hr'
      rw [Addr.add_lit, Nat.zero_add]
      simpa using hcell 0 _ rfl
    · cases hy
section
variable {P : Program} {w : World} {ops : Array Oper} {o : Oper} {a : Act} {Q : Exit → Act → World → Prop} {K : Act → World → Prop}
theorem run_ins (w : World) (ty t : TypeId) (e : TypeId) (ht : P.underlying t = some (.slice e)) (hi : (P.info? e).map (fun i => (i.zero, i.size, i.bytes)) = some (some (.int .i64 0), 1, 8))
    (L : Option Addr) (l : List Int) (hL : Pre w L l) (base : Nat) (v : Value) (ys : List Int) (hy : 0 < ys.length) (hown : Own RInt 1 e w base No v ys) (h63 : l.length + ys.length ≤ 1000000) :
    ∃ v' w', (Builtin.append_ #[t, t] ty #[.slice L l.length l.length, v]).run P w = .ok v' w' ∧ Own RInt 1 e w' w.heap.size No v' (l ++ ys) ∧ Below w.heap.size w w' := by
  obtain ⟨xs, ⟨hl, h1⟩, h2, h3⟩ := hown
  have hown' : Own RInt 1 e w base No v ys := ⟨xs, ⟨hl, h1⟩, h2, h3⟩
  rcases h1 with ⟨_, hn⟩ | ⟨g, cap, cur, rfl, hb, hg, hnc, r⟩
  · omega
  have hcells : ∀ i y, ys[i]? = some y → w.cell? ((⟨g, 0, none⟩ : Addr).add i) = some (.int .i64 y) := fun i y hy => by
    obtain ⟨hj, rfl⟩ := List.getElem?_eq_some_iff.1 hy
    obtain ⟨g', cap', zs, hv', _, _, _, _, hr, hcell, _⟩ := hown'.at_ hj
    cases hv'
    have hr' : zs = intC ys[i] := hr
    subst hr'
    rw [Addr.add_lit, Nat.zero_add]
    simpa using hcell 0 _ rfl
  rcases hL with ⟨rfl, rfl⟩ | ⟨ad, rfl, hold⟩
  · obtain ⟨v', w', hr, ho, hgr, hbl, _⟩ := run_app (P := P) RInt.ok w ty t w.heap.size e (.int .i64 0) 8 ht hi rfl (by decide) No (.slice none 0 0) [] (Own.nil _ _ _ _ _ _) ⟨g, 0, none⟩ ys.length cap ys rfl
      (fun i y hy => ⟨_, rfl, fun j u hu => by
        match j, hu with
        | 0, hu =>
          simp [intC] at hu; subst hu
          rw [Nat.mul_one, Nat.add_zero]
          exact hcells i y hy⟩) (no_lt _) (by simp at h63 ⊢; omega) (by simp [maxLen] at h63 ⊢; omega) (Nat.le_refl _)
    exact ⟨v', w', hr, ho, hbl⟩
  · obtain ⟨i0, hi0, hz0, hz1, hz2⟩ := info_parts hi
    obtain ⟨v', w', hr, ho, hgr⟩ := run_append_arg_grows (P := P) w t ty e i0 (.int .i64 0) 1 8 ht hi0 hz0 hz1 hz2 rfl (by decide) ad l.length l.length (l.map (Value.int .i64)) (by simp)
      (fun j u hu => by
        rw [List.getElem?_map] at hu
        obtain ⟨y, hy, rfl⟩ := Option.map_eq_some_iff.1 hu
        exact hold j y hy) ⟨g, 0, none⟩ ys.length cap (ys.map (Value.int .i64)) (by simp)
      (fun j u hu => by
        rw [List.getElem?_map] at hu
        obtain ⟨y, hy, rfl⟩ := Option.map_eq_some_iff.1 hu
        exact hcells j y hy) (by omega) (by simp [maxLen]; omega) (by omega)
    refine ⟨v', w', hr, ⟨_, by rw [List.length_append]; exact ho, fun _ _ hk => hk, fun i x hx => ⟨_, rfl, fun j u hu => ?_⟩⟩, ⟨hgr.os, hgr.tape, hgr.output, hgr.size, fun k hk => hgr.block k hk (by simp)⟩⟩
    match j, hu with
    | 0, hu =>
      simp [intC] at hu; subst hu
      rw [Nat.mul_one, Nat.add_zero, ← List.map_append, List.getElem?_map, hx]
      rfl
theorem step_ins {E : Prop} (w : World) (hgd : o.guard = none) (s x : Operand) (t : TypeId) (ho : o.op = .call { callee := .builtin .append, args := #[s, x], argTypes := #[t, t] })
    (e : TypeId) (ht : P.underlying t = some (.slice e)) (hi : (P.info? e).map (fun i => (i.zero, i.size, i.bytes)) = some (some (.int .i64 0), 1, 8))
    (L : Option Addr) (n : Nat) (l : List Int) (hn : l.length = n) (hs : a.eval s = .slice L n n) (hL : Pre w L l) (base : Nat) (v : Value) (hx : a.eval x = v) (ys : List Int) (hy : 0 < ys.length) (hown : Own RInt 1 e w base No v ys) (h63 : l.length + ys.length ≤ 1000000)
    (h : ∀ v' w', Own RInt 1 e w' w.heap.size No v' (l ++ ys) → Below w.heap.size w w' → K (a.put o.dst v') w') :
    if Region.wanted o (yielded ops a.tmps) = true then Oper.wp P o a w K Q else E := by
  subst hn
  have hw : Region.wanted o (yielded ops a.tmps) = true := by simp [Region.wanted, hgd]
  rw [if_pos hw]
  obtain ⟨v', w', hr, h2, h3⟩ := run_ins (P := P) w o.type t e ht hi L l hL base v ys hy hown h63
  unfold Oper.wp execOp
  simp only [ho, resolve, invoke, builtin, Sem.run_bind, Sem.run_pure, Result.andThen_ok, List.map_toArray, List.map_cons, List.map_nil, hs, hx, hr]
  exact h v' w' h2 h3
end
end Go.Proofs.YtepibepgfackkaaDoor
