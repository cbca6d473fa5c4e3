/- Program-free words and laws for memory: a slice that reads as a list, a slice that the call itself builds, conversions between strings and bytes. -/
import Derived.WalkKit
import Derived.Lib.Hide
import Derived.Lib.Strings
import Derived.Maps.AppendAt
import Derived.Deep.QuietTactic
import Derived.BigQuiet
import Derived.Deep.RegionHeld3
import Derived.Test.YtmgnihmjjijdoaaDoorChecked
namespace Go.Proofs.YtmgnihmjjijdoaaDoor
open Go.RowKit
theorem ret_bool {a b : Bool} (h : a = b) : Ending.returned (.bool a) = Ending.returned (.bool b) := by rw [h]
theorem ret_int {k : IntKind} {a b : Int} (h : a = b) : Ending.returned (.int k a) = Ending.returned (.int k b) := by rw [h]
theorem ret_str {a b : List UInt8} (h : a = b) : Ending.returned (.string ⟨a.toArray⟩) = Ending.returned (.string ⟨b.toArray⟩) := by rw [h]
theorem hide {p : Prop} (h : p) : Hid p := h
theorem drop_string (s : ByteArray) (k : Nat) (h : k < s.size) : s.data.toList.drop k = s[k] :: s.data.toList.drop (k + 1) := by
 rw [List.drop_eq_getElem_cons (by simpa using h)]
 rfl
theorem drop_string_end (s : ByteArray) (k : Nat) (h : s.size ≤ k) : s.data.toList.drop k = [] := by
 rw [List.drop_eq_nil_iff]
 simpa using h
theorem size_string (s : ByteArray) : s.data.toList.length = s.size := by cases s; rfl
theorem byte_lt (c : UInt8) : (0 : Int) ≤ (c.toNat : Int) ∧ (c.toNat : Int) < 256 := ⟨by omega, by have := c.toNat_lt; omega⟩
theorem ba_size (a b : ByteArray) : (a ++ b).size = a.size + b.size := by simp [ByteArray.size_append]
theorem ba_size_ex (s : ByteArray) (a b : Nat) (h : b ≤ s.size) : (s.extract a b).size = b - a := by simp [ByteArray.size_extract]; omega
theorem slice_str {P : Program} (t : TypeId) (ht : P.underlying t = some .string) (s : ByteArray) (i j : Nat) (I J : Int) (hI : I = i) (hJ : J = j) (h : i ≤ j) (h2 : j ≤ s.size) :
  ∀ W : World, (Instr.slice t (.string s) (some (.int .i64 I)) (some (.int .i64 J)) none).run P W = .ok (.string (s.extract i j)) W := by
 subst hI; subst hJ
 intro W
 have := run_slice_string (P := P) W t s .i64 .i64 (i : Int) (j : Int) ht (by omega) (by omega) (by omega)
 simpa using this
def Rep (α : Type) := World → (Nat → Prop) → α → List Value → Prop
structure RepOk {α : Type} (R : Rep α) (size : Nat) : Prop where
 len : ∀ {w S x cs}, R w S x cs → cs.length = size
 one : ∀ {w S x cs}, R w S x cs → ∀ u ∈ cs, u.oneCell' = true
 mono : ∀ {w w' : World} {S S' : Nat → Prop} {x cs}, R w S x cs → (∀ k, S k → w'.heap[k]? = w.heap[k]?) → (∀ k, S k → S' k) → R w' S' x cs
def Pu {α : Type} (f : α → List Value) : Rep α := fun _ _ x cs => cs = f x
theorem Pu.ok {α : Type} {f : α → List Value} {size : Nat} (hl : ∀ x, (f x).length = size) (h1 : ∀ x, ∀ u ∈ f x, u.oneCell' = true) : RepOk (Pu f) size :=
 ⟨fun h => by rw [h]; exact hl _, fun h => by rw [h]; exact h1 _, fun h _ _ => h⟩
def byteC (b : UInt8) : List Value := [.int .u8 (b.toNat : Int)]
def intC (n : Int) : List Value := [.int .i64 n]
def strC (l : List UInt8) : List Value := [.string ⟨l.toArray⟩]
abbrev RByte : Rep UInt8 := Pu byteC
abbrev RInt : Rep Int := Pu intC
abbrev RStr : Rep (List UInt8) := Pu strC
theorem RByte.ok : RepOk RByte 1 := Pu.ok (fun _ => rfl) (fun x u hu => by simp [byteC] at hu; subst hu; rfl)
theorem RInt.ok : RepOk RInt 1 := Pu.ok (fun _ => rfl) (fun x u hu => by simp [intC] at hu; subst hu; rfl)
theorem RStr.ok : RepOk RStr 1 := Pu.ok (fun _ => rfl) (fun x u hu => by simp [strC] at hu; subst hu; rfl)
def Sl {α : Type} (R : Rep α) (size : Nat) : Rep (List α) := fun w S l cs =>
  ∃ (A : Option Addr) (c : Nat), cs = [.slice A l.length c] ∧ l.length ≤ c ∧ c ≤ maxLen ∧
    (0 < l.length → ∃ b off, A = some ⟨b, off, none⟩ ∧ S b ∧
      ∀ i x, l[i]? = some x → ∃ xs, R w S x xs ∧ ∀ j u, xs[j]? = some u → w.cell? ⟨b, off + (i * size + j), none⟩ = some u)
theorem Sl.ok {α : Type} {R : Rep α} {size : Nat} (hR : RepOk R size) : RepOk (Sl R size) 1 := by
 refine ⟨?_, ?_, ?_⟩
 ·rintro w S x cs ⟨A, c, rfl, _⟩; rfl
 ·rintro w S x cs ⟨A, c, rfl, _⟩ u hu
  simp at hu; subst hu; rfl
 ·rintro w w' S S' x cs ⟨A, c, rfl, h1, h2, h3⟩ hk hS
  refine ⟨A, c, rfl, h1, h2, fun h0 => ?_⟩
  obtain ⟨b, off, hA, hb, hi⟩ := h3 h0
  refine ⟨b, off, hA, hS b hb, fun i x hx => ?_⟩
  obtain ⟨xs, hr, hc⟩ := hi i x hx
  exact ⟨xs, hR.mono hr hk hS, fun j u hu => (World.cell?_of_block (hk b hb)).trans (hc j u hu)⟩
theorem Sl.at_ {α : Type} {R : Rep α} {size : Nat} {w : World} {S : Nat → Prop} {l : List α} {A : Option Addr} {n c : Nat} (h : Sl R size w S l [.slice A n c]) {i : Nat} (hi : i < l.length) :
  ∃ b off xs, A = some ⟨b, off, none⟩ ∧ S b ∧ R w S l[i] xs ∧ ∀ j u, xs[j]? = some u → w.cell? ⟨b, off + (i * size + j), none⟩ = some u := by
 obtain ⟨A', c', e, _, _, h3⟩ := h
 simp only [List.cons.injEq, Value.slice.injEq, and_true] at e
 obtain ⟨rfl, rfl, rfl⟩ := e
 obtain ⟨b, off, hA, hb, hh⟩ := h3 (by omega)
 obtain ⟨xs, hr, hc⟩ := hh i l[i] (List.getElem?_eq_getElem hi)
 exact ⟨b, off, xs, hA, hb, hr, hc⟩
theorem Sl.len_ {α : Type} {R : Rep α} {size : Nat} {w : World} {S : Nat → Prop} {l : List α} {A : Option Addr} {n c : Nat} (h : Sl R size w S l [.slice A n c]) : n = l.length ∧ n ≤ c ∧ c ≤ maxLen := by
 obtain ⟨A', c', e, h1, h2, h3⟩ := h
 simp only [List.cons.injEq, Value.slice.injEq, and_true] at e
 obtain ⟨rfl, rfl, rfl⟩ := e
 exact ⟨rfl, h1, h2⟩
theorem Sl.shape {α : Type} {R : Rep α} {size : Nat} {w : World} {S : Nat → Prop} {l : List α} {v : Value} (h : Sl R size w S l [v]) : ∃ A c, v = .slice A l.length c := by
 obtain ⟨A, c, e, _⟩ := h
 simp only [List.cons.injEq, and_true] at e
 exact ⟨A, c, e⟩
theorem Sl.nil {α : Type} (R : Rep α) (size : Nat) (w : World) (S : Nat → Prop) : Sl R size w S [] [.slice none 0 0] :=
 ⟨none, 0, rfl, Nat.le_refl _, by simp [maxLen], fun h => absurd h (by simp)⟩
def Lt (B : Nat) : Nat → Prop := fun k => k < B
def Btw (A B : Nat) : Nat → Prop := fun k => A ≤ k ∧ k < B
theorem below_keeps {B : Nat} {w w' : World} (h : Below B w w') : ∀ k, Lt B k → w'.heap[k]? = w.heap[k]? := fun k hk => h.block k hk
def Own {α : Type} (R : Rep α) (size : Nat) (e : TypeId) (w : World) (base : Nat) (S : Nat → Prop) (v : Value) (l : List α) : Prop :=
  ∃ xs, w.ownsRow base e size v l.length xs ∧ (∀ g, v.ownBlock = some g → ¬ S g) ∧
    ∀ i x, l[i]? = some x → ∃ ys, R w S x ys ∧ ∀ j u, ys[j]? = some u → xs[i * size + j]? = some u
theorem Own.nil {α : Type} (R : Rep α) (size : Nat) (e : TypeId) (w : World) (base : Nat) (S : Nat → Prop) : Own R size e w base S (.slice none 0 0) ([] : List α) :=
 ⟨[], World.ownsRow_nil _ _ _ _, fun g h => by simp [Value.ownBlock] at h, fun i x h => by simp at h⟩
theorem Own.keep {α : Type} {R : Rep α} {size : Nat} {e : TypeId} {w w' : World} {base : Nat} {S S' : Nat → Prop} {v : Value} {l : List α} (hR : RepOk R size) (h : Own R size e w base S v l)
  (hv : ∀ g, v.ownBlock = some g → w'.heap[g]? = w.heap[g]?) (hk : ∀ k, S k → w'.heap[k]? = w.heap[k]?) (hS : ∀ k, S k → S' k) (hS' : ∀ g, v.ownBlock = some g → ¬ S' g) : Own R size e w' base S' v l := by
 obtain ⟨xs, h1, h2, h3⟩ := h
 refine ⟨xs, ?_, hS', fun i x hx => ?_⟩
 ·obtain ⟨hl, h1⟩ := h1
  refine ⟨hl, ?_⟩
  rcases h1 with h1 | ⟨g, cap, cur, rfl, hb, hg, r⟩
  ·exact .inl h1
  ·exact .inr ⟨g, cap, cur, rfl, hb, (hv g rfl).trans hg, r⟩
 ·obtain ⟨ys, hr, hc⟩ := h3 i x hx
  exact ⟨ys, hR.mono hr hk hS, hc⟩
theorem Own.lt {α : Type} {R : Rep α} {size : Nat} {e : TypeId} {w : World} {base : Nat} {S : Nat → Prop} {v : Value} {l : List α} (h : Own R size e w base S v l) : ∀ g, v.ownBlock = some g → base ≤ g ∧ g < w.heap.size := by
 obtain ⟨xs, h1, _⟩ := h
 exact fun g hg => h1.lt g hg
theorem Own.sl {α : Type} {R : Rep α} {size : Nat} {e : TypeId} {w : World} {base : Nat} {S : Nat → Prop} {v : Value} {l : List α} (hR : RepOk R size) (h : Own R size e w base S v l) :
  Sl R size w (fun k => S k ∨ (base ≤ k ∧ k < w.heap.size)) l [v] := by
 obtain ⟨xs, ⟨hl, h1⟩, h2, h3⟩ := h
 rcases h1 with ⟨rfl, hn⟩ | ⟨g, cap, cur, rfl, hb, hg, hnc, hcm, hsz, htk⟩
 ·refine ⟨none, 0, by rw [hn], by omega, by simp [maxLen], fun h0 => by omega⟩
 ·have hgl : g < w.heap.size := (Array.getElem?_eq_some_iff.1 hg).1
  refine ⟨some ⟨g, 0, none⟩, cap, rfl, hnc, hcm, fun h0 => ⟨g, 0, rfl, .inr ⟨hb, hgl⟩, fun i x hx => ?_⟩⟩
  obtain ⟨ys, hr, hc⟩ := h3 i x hx
  refine ⟨ys, hR.mono hr (fun _ _ => rfl) (fun k hk => .inl hk), fun j u hu => ?_⟩
  have hxu := hc j u hu
  rw [← htk, List.getElem?_take] at hxu
  split at hxu
  ·rw [Nat.zero_add, cell_of_row w g _ cur e (0, 0) hg]
   simpa using hxu
  ·cases hxu
theorem news_of {α : Type} {R : Rep α} {size : Nat} (hR : RepOk R size) {w : World} {S : Nat → Prop} {ad : Addr} : ∀ (zs : List α) (k0 : Nat),
    (∀ i y, zs[i]? = some y → ∃ cs, R w S y cs ∧ ∀ j u, cs[j]? = some u → w.cell? (ad.add ((k0 + i) * size + j)) = some u) →
      ∃ news : List Value, news.length = zs.length * size ∧ (∀ j u, news[j]? = some u → w.cell? (ad.add (k0 * size + j)) = some u) ∧ (∀ u ∈ news, u.oneCell' = true) ∧
        ∀ i y, zs[i]? = some y → ∃ cs, R w S y cs ∧ ∀ j u, cs[j]? = some u → news[i * size + j]? = some u := by
  intro zs
  induction zs with
  | nil => exact fun k0 _ => ⟨[], by simp, fun j u h => by simp at h, fun u h => by simp at h, fun i y h => by simp at h⟩
  | cons y zs ih =>
    intro k0 hh
    obtain ⟨news, n1, n2, n3, n4⟩ := ih (k0 + 1) (fun i y hy => by
      obtain ⟨cs, c1, c2⟩ := hh (i + 1) y (by simpa using hy)
      exact ⟨cs, c1, fun j u hu => by have := c2 j u hu; rwa [show k0 + (i + 1) = k0 + 1 + i from by omega] at this⟩)
    obtain ⟨cs, c1, c2⟩ := hh 0 y rfl
    have hcl := hR.len c1
    refine ⟨cs ++ news, by simp [n1, hcl, Nat.add_mul]; omega, fun j u hu => ?_, fun u hu => ?_, fun i y' hy' => ?_⟩
    · rcases Nat.lt_or_ge j cs.length with hj | hj
      · rw [List.getElem?_append_left hj] at hu
        simpa using c2 j u hu
      · rw [List.getElem?_append_right hj] at hu
        have := n2 _ u hu
        rw [Nat.add_mul] at this
        rw [show k0 * size + j = k0 * size + 1 * size + (j - cs.length) from by omega]
        exact this
    · rcases List.mem_append.1 hu with hu | hu
      · exact hR.one c1 u hu
      · exact n3 u hu
    · match i, hy' with
      | 0, hy' =>
        simp at hy'; subst hy'
        refine ⟨cs, c1, fun j u hu => ?_⟩
        have hj : j < cs.length := (List.getElem?_eq_some_iff.1 hu).1
        rw [Nat.zero_mul, Nat.zero_add, List.getElem?_append_left hj]
        exact hu
      | i + 1, hy' =>
        obtain ⟨cs', d1, d2⟩ := n4 i y' (by simpa using hy')
        refine ⟨cs', d1, fun j u hu => ?_⟩
        rw [Nat.add_mul, List.getElem?_append_right (by omega)]
        have := d2 j u hu
        rwa [show i * size + 1 * size + j - cs.length = i * size + j from by omega]
section
variable {P : Program} {α : Type} {R : Rep α} {size : Nat} {w : World} {ops : Array Oper} {rest : List Oper} {o : Oper} {a : Act} {Q : Exit → Act → World → Prop} {K : Act → World → Prop}
theorem run_app (hR : RepOk R size) (w : World) (ty t : TypeId) (base : Nat) (e : TypeId) (z : Value) (bytes : Nat) (ht : P.underlying t = some (.slice e))
    (hi : (P.info? e).map (fun i => (i.zero, i.size, i.bytes)) = some (some z, size, bytes)) (hzs : z.cells.size = size) (hsz : 0 < size)
    (S : Nat → Prop) (v : Value) (l : List α) (hown : Own R size e w base S v l) (ad : Addr) (m c : Nat) (ys : List α) (hm : m = ys.length)
    (hys : ∀ i y, ys[i]? = some y → ∃ cs, R w S y cs ∧ ∀ j u, cs[j]? = some u → w.cell? (ad.add (i * size + j)) = some u)
    (hS : ∀ k, S k → k < w.heap.size) (hbytes : (l.length + ys.length) * bytes ≤ 140737488355328) (h63 : l.length + ys.length ≤ maxLen) (hbase : base ≤ w.heap.size) :
    ∃ v' w', (Builtin.append_ #[t, t] ty #[v, .slice (some ad) m c]).run P w = .ok v' w' ∧ Own R size e w' base S v' (l ++ ys) ∧ w.grownBy w' v.ownBlock ∧ Below base w w' ∧
      (v'.ownBlock = v.ownBlock ∨ v'.ownBlock = some w.heap.size) := by
  obtain ⟨i0, hi0, hz0, hz1, hz2⟩ := info_parts hi
  obtain ⟨xs, h1, h2, h3⟩ := hown
  have hsz' := h1.1
  obtain ⟨news, n1, n2, n3, n4⟩ := news_of hR ys 0 (by simpa using hys)
  obtain ⟨v', w', hr, hown', hg, _, hat⟩ := run_append_own_at (P := P) w base t ty e i0 z size bytes ht hi0 hz0 hz1 hz2 hzs hsz v l.length xs h1 ad m c news (by rw [hm]; exact n1) (fun j u hu => by simpa using n2 j u hu) n3
    (by rw [hm]; exact h63) (by rw [hm]; exact hbytes) hbase
  have hlen : (l ++ ys).length = l.length + m := by simp [hm]
  have hkeep : ∀ k, S k → w'.heap[k]? = w.heap[k]? := fun k hk => hg.block k (hS k hk) (fun e => h2 k e.symm hk)
  refine ⟨v', w', hr, ⟨xs ++ news, by rw [hlen]; exact hown', fun g hgv hSg => ?_, fun i y hy => ?_⟩, hg,
    ⟨hg.os, hg.tape, hg.output, hg.size, fun k hk => hg.block k (by omega) (fun e => by have := (h1.lt k e.symm).1; omega)⟩, hat⟩
  · rcases hat with e | e
    · exact h2 g (e ▸ hgv) hSg
    · rw [e] at hgv
      have := hS g hSg
      simp only [Option.some.injEq] at hgv
      omega
  · rcases Nat.lt_or_ge i l.length with hil | hil
    · rw [List.getElem?_append_left hil] at hy
      obtain ⟨cs, c1, c2⟩ := h3 i y hy
      refine ⟨cs, hR.mono c1 hkeep (fun _ hk => hk), fun j u hu => ?_⟩
      have := c2 j u hu
      rw [List.getElem?_append_left (List.getElem?_eq_some_iff.1 this).1]
      exact this
    · rw [List.getElem?_append_right hil] at hy
      obtain ⟨cs, c1, c2⟩ := n4 _ y hy
      refine ⟨cs, hR.mono c1 hkeep (fun _ hk => hk), fun j u hu => ?_⟩
      have := c2 j u hu
      have hh : i * size = l.length * size + (i - l.length) * size := by rw [← Nat.add_mul]; congr 1; omega
      rw [List.getElem?_append_right (by omega), show i * size + j - xs.length = (i - l.length) * size + j from by omega]
      exact this
theorem wp_app (hR : RepOk R size) (w : World) (s x : Operand) (t : TypeId) (ho : o.op = .call { callee := .builtin .append, args := #[s, x], argTypes := #[t, t] })
  (base : Nat) (e : TypeId) (z : Value) (bytes : Nat) (ht : P.underlying t = some (.slice e))
  (hi : (P.info? e).map (fun i => (i.zero, i.size, i.bytes)) = some (some z, size, bytes)) (hzs : z.cells.size = size) (hsz : 0 < size)
  (S : Nat → Prop) (v : Value) (l : List α) (hs : a.eval s = v) (hown : Own R size e w base S v l) (ad : Addr) (m c : Nat) (ys : List α) (hx : a.eval x = .slice (some ad) m c) (hm : m = ys.length)
  (hys : ∀ i y, ys[i]? = some y → ∃ cs, R w S y cs ∧ ∀ j u, cs[j]? = some u → w.cell? (ad.add (i * size + j)) = some u)
  (hS : ∀ k, S k → k < w.heap.size) (hbytes : (l.length + ys.length) * bytes ≤ 140737488355328) (h63 : l.length + ys.length ≤ maxLen) (hbase : base ≤ w.heap.size)
  (h : ∀ v' w', Own R size e w' base S v' (l ++ ys) → w.grownBy w' v.ownBlock → Below base w w' → (v'.ownBlock = v.ownBlock ∨ v'.ownBlock = some w.heap.size) → K (a.put o.dst v') w') : o.wp P a w K Q := by
 obtain ⟨v', w', hr, h2, h3, h4, h5⟩ := run_app (P := P) hR w o.type t base e z bytes ht hi hzs hsz S v l hown ad m c ys hm hys hS hbytes h63 hbase
 unfold Oper.wp execOp
 simp only [ho, resolve, invoke, builtin, Sem.run_bind, Sem.run_pure, Result.andThen_ok, List.map_toArray, List.map_cons, List.map_nil, hs, hx, hr]
 exact h v' w' h2 h3 h4 h5
theorem wpList_app (hR : RepOk R size) (w : World) (hgd : o.guard = none) (s x : Operand) (t : TypeId) (ho : o.op = .call { callee := .builtin .append, args := #[s, x], argTypes := #[t, t] })
  (base : Nat) (e : TypeId) (z : Value) (bytes : Nat) (ht : P.underlying t = some (.slice e))
  (hi : (P.info? e).map (fun i => (i.zero, i.size, i.bytes)) = some (some z, size, bytes)) (hzs : z.cells.size = size) (hsz : 0 < size)
  (S : Nat → Prop) (v : Value) (l : List α) (hs : a.eval s = v) (hown : Own R size e w base S v l) (ad : Addr) (m c : Nat) (ys : List α) (hx : a.eval x = .slice (some ad) m c) (hm : m = ys.length)
  (hys : ∀ i y, ys[i]? = some y → ∃ cs, R w S y cs ∧ ∀ j u, cs[j]? = some u → w.cell? (ad.add (i * size + j)) = some u)
  (hS : ∀ k, S k → k < w.heap.size) (hbytes : (l.length + ys.length) * bytes ≤ 140737488355328) (h63 : l.length + ys.length ≤ maxLen) (hbase : base ≤ w.heap.size)
  (h : ∀ v' w', Own R size e w' base S v' (l ++ ys) → w.grownBy w' v.ownBlock → Below base w w' → (v'.ownBlock = v.ownBlock ∨ v'.ownBlock = some w.heap.size) → wpList P ops Q rest (a.put o.dst v') w') : wpList P ops Q (o :: rest) a w :=
 wpList_plain hgd fun _ hK => wp_app hR w s x t ho base e z bytes ht hi hzs hsz S v l hs hown ad m c ys hx hm hys hS hbytes h63 hbase fun v' w' h2 h3 h4 h5 => hK _ _ (h v' w' h2 h3 h4 h5)
theorem step_app {E : Prop} (hR : RepOk R size) (w : World) (hgd : o.guard = none) (s x : Operand) (t : TypeId) (ho : o.op = .call { callee := .builtin .append, args := #[s, x], argTypes := #[t, t] })
  (base : Nat) (e : TypeId) (z : Value) (bytes : Nat) (ht : P.underlying t = some (.slice e))
  (hi : (P.info? e).map (fun i => (i.zero, i.size, i.bytes)) = some (some z, size, bytes)) (hzs : z.cells.size = size) (hsz : 0 < size)
  (S : Nat → Prop) (v : Value) (l : List α) (hs : a.eval s = v) (hown : Own R size e w base S v l) (ad : Addr) (m c : Nat) (ys : List α) (hx : a.eval x = .slice (some ad) m c) (hm : m = ys.length)
  (hys : ∀ i y, ys[i]? = some y → ∃ cs, R w S y cs ∧ ∀ j u, cs[j]? = some u → w.cell? (ad.add (i * size + j)) = some u)
  (hS : ∀ k, S k → k < w.heap.size) (hbytes : (l.length + ys.length) * bytes ≤ 140737488355328) (h63 : l.length + ys.length ≤ maxLen) (hbase : base ≤ w.heap.size)
  (h : ∀ v' w', Own R size e w' base S v' (l ++ ys) → w.grownBy w' v.ownBlock → Below base w w' → (v'.ownBlock = v.ownBlock ∨ v'.ownBlock = some w.heap.size) → K (a.put o.dst v') w') :
  if Region.wanted o (yielded ops a.tmps) = true then Oper.wp P o a w K Q else E := by
 have hw : Region.wanted o (yielded ops a.tmps) = true := by simp [Region.wanted, hgd]
 rw [if_pos hw]
 exact wp_app hR w s x t ho base e z bytes ht hi hzs hsz S v l hs hown ad m c ys hx hm hys hS hbytes h63 hbase h
theorem run_bts_str (w : World) (src dst e : TypeId) (hs : P.underlying src = some (.slice e)) (he : P.underlying e = some (.int .u8)) (hd : P.underlying dst = some .string)
    (S : Nat → Prop) (v : Value) (l : List UInt8) (hr : Sl RByte 1 w S l [v]) : (convert src dst v).run P w = .ok (.string ⟨l.toArray⟩) w := by
  obtain ⟨A, c, e1, _, _, h3⟩ := hr
  simp only [List.cons.injEq, and_true] at e1
  subst e1
  rcases Nat.eq_zero_or_pos l.length with h0 | h0
  · have : l = [] := List.eq_nil_of_length_eq_zero h0
    subst this
    show (convert src dst (.slice A 0 c)).run P w = _
    rw [run_convert_bytes_string w src dst e A 0 c hs he hd]
    cases A with
    | none => simp [Conv.bytesToString]; rfl
    | some ad =>
      have := run_bytesToString (P := P) w ad 0 c [] (by simp [loadCells, loadCellsFrom])
      exact this
  · obtain ⟨b, off, rfl, _, hh⟩ := h3 h0
    refine run_convert_bytes_back w src dst e ⟨b, off, none⟩ c l hs he hd fun j hj => ?_
    obtain ⟨xs, hx, hc⟩ := hh j l[j] (List.getElem?_eq_getElem hj)
    rw [Addr.add_lit]
    rw [show xs = byteC l[j] from hx] at hc
    simpa using hc 0 _ rfl
def BytesAt (w : World) (e : TypeId) (g : Nat) (l : List UInt8) : Prop := ∃ cs fr, w.heap[g]? = some (.cells cs e fr) ∧ l.length ≤ cs.size ∧ (∀ i (h : i < l.length), cs[i]? = some (.int .u8 (l[i].toNat : Int))) ∧ ∀ i, i < l.length → w.frozen? ⟨g, i, none⟩ = false
theorem wpList_str_bts (w : World) (hgd : o.guard = none) (x : Operand) (src dst e : TypeId) (ho : o.op = .convert src dst x) (hs : P.underlying src = some .string) (hd : P.underlying dst = some (.slice e)) (he : P.underlying e = some (.int .u8))
  (s : ByteArray) (hx : a.eval x = .string s) (l : List UInt8) (hl : s.data.toList = l) (hm : l.length ≤ maxLen)
  (h : ∀ g c w', w.heap.size ≤ g → g < w'.heap.size → Below w.heap.size w w' → BytesAt w' e g l → l.length ≤ c → c ≤ maxLen → wpList P ops Q rest (a.put o.dst (.slice (some ⟨g, 0, none⟩) l.length c)) w') : wpList P ops Q (o :: rest) a w := by
 subst hl
 refine wpList_plain hgd fun K hK => ?_
 have hr := run_bytes_of_string (P := P) w src dst e s hs hd he
 unfold Oper.wp execOp
 simp only [ho, Sem.run_bind, Sem.run_pure, Result.andThen_ok, hx, hr]
 have hnew : ∀ C fr, (w.drew.alloc (.cells C e fr)).heap[w.heap.size]? = some (.cells C e fr) := fun C fr => heap_alloc_new w.drew _
 refine hK _ _ (h w.heap.size _ _ (Nat.le_refl _) (by simp) (((Below.refl _ _).drew).alloc (by simp) _) ⟨_, _, hnew _ _, ?_, fun i hi => ?_, fun i hi => ?_⟩ (by rw [size_string]; exact grownCap_ge w _ _ _) (grownCap_le_maxLen w _ _ _ (by rw [size_string] at hm; exact hm)))
 ·simp [bytesRow]
 ·rw [bytesRow_at s _ i (by simpa using hi)]
  simp
 ·have := World.frozen?_alloc_mark w.drew (bytesRow s (grownCap w s.size 0 e)) e (bytesRow s (grownCap w s.size 0 e)).size ((bytesRow s (grownCap w s.size 0 e)).size + 1) i
  rw [show w.drew.heap.size = w.heap.size from rfl] at this
  rw [this]
  have hb : s.data.toList.length ≤ (bytesRow s (grownCap w s.size 0 e)).size := by simp [bytesRow]
  simp only [Bool.and_eq_false_iff, decide_eq_false_iff_not]
  left
  omega
end
section
variable {w w' : World} {e : TypeId} {g : Nat} {l : List UInt8}
theorem BytesAt.cell (h : BytesAt w e g l) {i : Nat} (hi : i < l.length) : w.cell? ⟨g, i, none⟩ = some (.int .u8 (l[i].toNat : Int)) := by
 obtain ⟨cs, fr, hg, _, hc, _⟩ := h
 rw [cell_of_row w g i cs e fr hg]
 exact hc i hi
theorem BytesAt.free (h : BytesAt w e g l) {i : Nat} (hi : i < l.length) : w.frozen? ⟨g, i, none⟩ = false := by
 obtain ⟨cs, fr, hg, _, hc, hf⟩ := h
 exact hf i hi
theorem BytesAt.keep (h : BytesAt w e g l) (hk : w'.heap[g]? = w.heap[g]?) : BytesAt w' e g l := by
 obtain ⟨cs, fr, hg, h1, hc, hf⟩ := h
 exact ⟨cs, fr, hk.trans hg, h1, hc, fun i hi => (World.frozen?_of_block (a := ⟨g, i, none⟩) hk).trans (hf i hi)⟩
theorem BytesAt.sl (h : BytesAt w e g l) {c : Nat} (hc : l.length ≤ c) (hm : c ≤ maxLen) : Sl RByte 1 w (fun k => k = g) l [.slice (some ⟨g, 0, none⟩) l.length c] :=
  ⟨_, c, rfl, hc, hm, fun _ => ⟨g, 0, rfl, rfl, fun i x hx => ⟨byteC x, rfl, fun j u hu => by
    match j, hu with
    | 0, hu =>
      simp [byteC] at hu; subst hu
      obtain ⟨hi, rfl⟩ := List.getElem?_eq_some_iff.1 hx
      simpa using h.cell hi⟩⟩⟩
theorem BytesAt.set_ (h : BytesAt w e g l) {i : Nat} (hi : i < l.length) (b : UInt8) : BytesAt (w.setCell ⟨g, i, none⟩ (.int .u8 (b.toNat : Int))) e g (l.set i b) := by
 obtain ⟨cs, fr, hg, h1, hc, hf⟩ := h
 refine ⟨cs.setIfInBounds i (.int .u8 (b.toNat : Int)), fr, ?_, by simpa using h1, fun j hj => ?_, fun j hj => by simpa using hf j (by simpa using hj)⟩
 ·simp [World.setCell, Array.getElem?_modify, hg]
 ·have hj' : j < l.length := by simpa using hj
  rw [Array.getElem?_setIfInBounds, List.getElem_set]
  split
  ·rename_i hij
   subst hij
   simp [show i < cs.size by omega]
  ·exact hc j hj'
end
def No : Nat → Prop := fun _ => False
theorem Own.alloc {α : Type} {R : Rep α} {size : Nat} {e : TypeId} {w : World} {base : Nat} {S : Nat → Prop} {v : Value} {l : List α} (hR : RepOk R size) (h : Own R size e w base S v l) (hS : ∀ k, S k → k < w.heap.size) (o : Obj) : Own R size e (w.alloc o) base S v l :=
 Own.keep hR h (fun g hg => Below.heap_alloc w o g (h.lt g hg).2) (fun k hk => Below.heap_alloc w o k (hS k hk)) (fun _ hk => hk) (by obtain ⟨_, _, h2, _⟩ := h; exact h2)
theorem Own.drew {α : Type} {R : Rep α} {size : Nat} {e : TypeId} {w : World} {base : Nat} {S : Nat → Prop} {v : Value} {l : List α} (hR : RepOk R size) (h : Own R size e w base S v l) : Own R size e w.drew base S v l :=
 Own.keep hR h (fun _ _ => rfl) (fun _ _ => rfl) (fun _ hk => hk) (by obtain ⟨_, _, h2, _⟩ := h; exact h2)
theorem Own.below {α : Type} {R : Rep α} {size : Nat} {e : TypeId} {w w' : World} {base : Nat} {S : Nat → Prop} {v : Value} {l : List α} (hR : RepOk R size) (h : Own R size e w base S v l) (hS : ∀ k, S k → k < w.heap.size) (hb : Below w.heap.size w w') : Own R size e w' base S v l :=
 Own.keep hR h (fun g hg => hb.block g (h.lt g hg).2) (fun k hk => hb.block k (hS k hk)) (fun _ hk => hk) (by obtain ⟨_, _, h2, _⟩ := h; exact h2)
theorem no_lt (B : Nat) : ∀ k, No k → k < B := fun _ h => h.elim
theorem news_pu {α : Type} {f : α → List Value} {size : Nat} (hf : ∀ x, (f x).length = size) (w : World) (S : Nat → Prop) (C : Array Value) (t : TypeId) (l : List α) (hC : C.toList = l.flatMap f) :
    ∀ i y, l[i]? = some y → ∃ cs, Pu f (w.alloc (.cells C t)) S y cs ∧ ∀ j u, cs[j]? = some u → (w.alloc (.cells C t)).cell? ((⟨w.heap.size, 0, none⟩ : Addr).add (i * size + j)) = some u := by
  intro i y hy
  refine ⟨f y, rfl, fun j u hu => ?_⟩
  rw [Addr.add_lit, Nat.zero_add, World.cell?_alloc_new]
  have hC' : C[i * size + j]? = (l.flatMap f)[i * size + j]? := by rw [← hC, Array.getElem?_toList]
  rw [hC']
  clear hC hC'
  have hj : j < size := by have := (List.getElem?_eq_some_iff.1 hu).1; rwa [hf y] at this
  induction l generalizing i with
  | nil => simp at hy
  | cons x l ih =>
    rw [List.flatMap_cons]
    match i, hy with
    | 0, hy =>
      simp at hy; subst hy
      rw [List.getElem?_append_left (by rw [hf]; omega)]
      simpa using hu
    | i + 1, hy =>
      rw [Nat.add_mul, List.getElem?_append_right (by rw [hf]; omega), hf]
      have := ih i (by simpa using hy)
      rwa [show i * size + 1 * size + j - size = i * size + j from by omega]
theorem news_bytes (w : World) (S : Nat → Prop) (C : Array Value) (t : TypeId) (l : List UInt8) (hC : C.toList = l.map fun b => Value.int .u8 (b.toNat : Int)) :
  ∀ i y, l[i]? = some y → ∃ cs, RByte (w.alloc (.cells C t)) S y cs ∧ ∀ j u, cs[j]? = some u → (w.alloc (.cells C t)).cell? ((⟨w.heap.size, 0, none⟩ : Addr).add (i * 1 + j)) = some u :=
 news_pu (f := byteC) (size := 1) (fun _ => rfl) w S C t l (by
  rw [hC]
  clear hC
  induction l with
  | nil => rfl
  | cons x l ih => rw [List.map_cons, List.flatMap_cons, ih]; rfl)
theorem quiet_left {P : Program} {f : FuncId} {args : Array Value} {w : World} {n : Nat} {v : Value}
  (h : Calls P f args (w.drewN n) fun e w' => e = .returned v ∧ w.drewN n = w') : Calls P f args (w.drewN n) fun e w'' => e = .returned v ∧ ∃ m, w'' = w.drewN m :=
 h.mono fun _ _ ⟨he, hm⟩ => ⟨he, n, hm.symm⟩
theorem below_alloc {B : Nat} {a w : World} (h : Below B a w) (hB : B ≤ w.heap.size) (o : Obj) : Below B a (w.alloc o) := h.alloc hB o
theorem below_drewN {B : Nat} {a w : World} (h : Below B a w) (n : Nat) : Below B a (w.drewN n) := ⟨h.os, h.tape, h.output, h.size, h.block⟩
theorem Own.drewN {α : Type} {R : Rep α} {size : Nat} {e : TypeId} {w : World} {base : Nat} {S : Nat → Prop} {v : Value} {l : List α} (hR : RepOk R size) (h : Own R size e w base S v l) (n : Nat) : Own R size e (w.drewN n) base S v l :=
 Own.keep hR h (fun _ _ => rfl) (fun _ _ => rfl) (fun _ hk => hk) (by obtain ⟨_, _, h2, _⟩ := h; exact h2)
theorem Own.at_ {α : Type} {R : Rep α} {size : Nat} {e : TypeId} {w : World} {base : Nat} {S : Nat → Prop} {v : Value} {l : List α} (h : Own R size e w base S v l) {i : Nat} (hi : i < l.length) :
  ∃ g cap ys, v = .slice (some ⟨g, 0, none⟩) l.length cap ∧ base ≤ g ∧ g < w.heap.size ∧ l.length ≤ cap ∧ cap ≤ maxLen ∧ R w S l[i] ys ∧ (∀ j u, ys[j]? = some u → w.cell? ⟨g, i * size + j, none⟩ = some u) ∧ ∀ j, w.frozen? ⟨g, j, none⟩ = false := by
 obtain ⟨xs, ⟨hl, h1⟩, h2, h3⟩ := h
 rcases h1 with ⟨rfl, hn⟩ | ⟨g, cap, cur, rfl, hb, hg, hnc, hcm, hsz, htk⟩
 ·omega
 ·have hgl : g < w.heap.size := (Array.getElem?_eq_some_iff.1 hg).1
  obtain ⟨ys, hr, hc⟩ := h3 i l[i] (List.getElem?_eq_getElem hi)
  refine ⟨g, cap, ys, rfl, hb, hgl, hnc, hcm, hr, fun j u hu => ?_, fun j => by simp [World.frozen?, hg]⟩
  have hxu := hc j u hu
  rw [← htk, List.getElem?_take] at hxu
  split at hxu
  ·rw [cell_of_row w g _ cur e (0, 0) hg]
   simpa using hxu
  ·cases hxu
end Go.Proofs.YtmgnihmjjijdoaaDoor
