/- Name constraints that the laws make. -/
import Derived.Test.YtahamclodagihaaGreatDoorTGnI
namespace Go.Proofs.YtahamclodagihaaGreatDoor
open Go.RowKit
theorem gen_step_ex {wr w1 : World} {base d : Nat} {S : Nat → Prop} {v : Value} {l : List Gen} {k : Int} {t : ByteArray} {n : Name} {A1 : Option Addr} {c1 : Nat} (hown : Own RGen 3 62 wr base S v l) (hS : ∀ j, S j → base ≤ j ∧ j < wr.heap.size) (hbase : base ≤ wr.heap.size)
    (hex : Ex d wr w1) (hd : d < base) (hz : wr.heap.size ≤ w1.heap.size) (h1 : Sl RRdn 1 w1 (Btw wr.heap.size w1.heap.size) n [.slice A1 n.length c1]) :
    ∃ S' : Nat → Prop, Own RGen 3 62 (w1.alloc (.cells #[.int .i64 k, .string t, .slice A1 n.length c1] 62)) base S' v l ∧
      (∀ i z, [((k, t.data.toList, n) : Gen)][i]? = some z → ∃ cs, RGen (w1.alloc (.cells #[.int .i64 k, .string t, .slice A1 n.length c1] 62)) S' z cs ∧ ∀ j u, cs[j]? = some u → (w1.alloc (.cells #[.int .i64 k, .string t, .slice A1 n.length c1] 62)).cell? ((⟨w1.heap.size, 0, none⟩ : Addr).add (i * 3 + j)) = some u) ∧
      ∀ j, S' j → base ≤ j ∧ j < (w1.alloc (.cells #[.int .i64 k, .string t, .slice A1 n.length c1] 62)).heap.size := by
  obtain ⟨S', hS'⟩ : ∃ S' : Nat → Prop, S' = fun j => S j ∨ (wr.heap.size ≤ j ∧ j < w1.heap.size) := ⟨_, rfl⟩
  have hS2 : ∀ j, S' j → base ≤ j ∧ j < w1.heap.size := fun j hj => by
    rw [hS'] at hj
    rcases hj with hj | hj
    · have := hS j hj; omega
    · omega
  have hnoS : ∀ g, v.ownBlock = some g → ¬ S' g := fun g hg hh => by
    rw [hS'] at hh
    have hlt := (hown.lt g hg).2
    rcases hh with hh | hh
    · obtain ⟨_, _, h2, _⟩ := hown
      exact h2 g hg hh
    · omega
  have hownO := ((hown.ex RGen.ok hex hd hS).more RGen.ok (fun j hj => by rw [hS']; exact .inl hj) hnoS)
  have hownA := hownO.alloc RGen.ok (fun j hj => (hS2 j hj).2) (.cells #[.int .i64 k, .string t, .slice A1 n.length c1] 62)
  refine ⟨S', hownA, fun i z hz => ?_, fun j hj => ⟨(hS2 j hj).1, by have := (hS2 j hj).2; simp; omega⟩⟩
  match i, hz with
  | 0, hz =>
    simp at hz; subst hz
    refine ⟨[.int .i64 k, .string t, .slice A1 n.length c1], ⟨_, rfl, (Sl.ok RRdn.ok).mono h1 (fun j hj => Below.heap_alloc _ _ j hj.2) (fun j hj => by rw [hS']; exact .inr hj)⟩, fun j u hu => ?_⟩
    rw [Addr.add_lit, Nat.zero_mul, Nat.zero_add, Nat.zero_add, World.cell?_alloc_new]
    simpa using hu
theorem SB.ex {g d : Nat} {u v : Value} {W W' : World} (h : SB g u v W) (hx : Ex d W W') (hd : g ≠ d) : SB g u v W' := (hx.at_ h.lt hd).trans h
theorem TB.ex {g d : Nat} {u : Value} {W W' : World} (h : TB g u W) (hx : Ex d W W') (hd : g ≠ d) : TB g u W' := (hx.at_ h.lt hd).trans h
def GoodSub (s : Sub) : Prop := s.1.length ≤ 4 ∧ s.2.length ≤ 4 ∧ (∀ g ∈ s.1, GoodBase g) ∧ ∀ g ∈ s.2, GoodBase g
theorem GoodN.cp {n : Name} (h : GoodN n) : CpN n := ⟨by have := h.1; omega, fun r hr => by
 rcases h.2 r hr with ⟨a, _, rfl⟩ | ⟨a, _, b, _, rfl, _⟩
 ·simp
 ·simp⟩
theorem CpN.nil : CpN [] := ⟨by simp, fun r hr => by cases hr⟩
theorem GoodBase.cp {g : Gen} (h : GoodBase g) : CpN g.2.2 := by
 rcases h with ⟨_, _, rfl⟩ | ⟨_, _, rfl⟩ | ⟨_, _, rfl⟩ | ⟨n, hn, rfl⟩
 ·exact CpN.nil
 ·exact CpN.nil
 ·exact CpN.nil
 ·exact hn.cp
theorem GoodSub.cp {s : Sub} (h : GoodSub s) : CpS s :=
 ⟨⟨by have := h.1; omega, fun g hg => (h.2.2.1 g hg).cp⟩, ⟨by have := h.2.1; omega, fun g hg => (h.2.2.2 g hg).cp⟩⟩
theorem GoodSub.small {s : Sub} (h : GoodSub s) : SmallGs s.1 ∧ SmallGs s.2 := ⟨fun g hg => (h.2.2.1 g hg).small, fun g hg => (h.2.2.2 g hg).small⟩
theorem SB.base {g B : Nat} {u v : Value} {W W' : World} (h : SB g u v W) (hb : Below B W W') (hg : g < B) : SB g u v W' := (hb.block g hg).trans h
theorem SB.alloc {g : Nat} {u v : Value} {W : World} (h : SB g u v W) (o : Obj) : SB g u v (W.alloc o) := (Below.heap_alloc W o g h.lt).trans h
theorem SB.store0 {g : Nat} {u v : Value} {W : World} (h : SB g u v W) (a : Value) : SB g a v (W.setCell ⟨g, 0, none⟩ a) := by
 unfold SB at *
 simp [World.setCell, Array.getElem?_modify, h]
theorem SB.store1 {g : Nat} {u v : Value} {W : World} (h : SB g u v W) (a : Value) : SB g u a (W.setCell ⟨g, 1, none⟩ a) := by
 unfold SB at *
 simp [World.setCell, Array.getElem?_modify, h]
theorem SB.other {g k j : Nat} {u v : Value} {W : World} (h : SB g u v W) (hk : g ≠ k) (a : Value) : SB g u v (W.setCell ⟨k, j, none⟩ a) :=
 (Below.heap_setCell W ⟨k, j, none⟩ a g hk).trans h
end Go.Proofs.YtahamclodagihaaGreatDoor
