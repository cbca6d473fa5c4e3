/- The law NameOrder, its walk. -/
import Derived.Test.YtahamclodagihaaGreatDoorKGNamY
import Derived.Test.YtahamclodagihaaGreatDoorKGNenI
import Derived.Deep.RegionHeld3
import Derived.Deep.DeepCutAuto
namespace Go.Proofs.YtahamclodagihaaGreatDoor
open Go.RowKit
def NmAt (d : Nat) (n : Name) (g : Nat) (w : World) : Prop :=
 ∃ (A : Option Addr) (c : Nat), NB g (.slice A n.length c) w ∧ g ≠ d ∧ Sl RRdn 1 w (fun k => k < w.heap.size ∧ k ≠ d ∧ k ≠ g) n [.slice A n.length c]
theorem NmAt.ex {d g : Nat} {n : Name} {w w' : World} (h : NmAt d n g w) (hx : Ex d w w') : NmAt d n g w' := by
 obtain ⟨A, c, h1, h2, h3⟩ := h
 exact ⟨A, c, h1.ex hx h2, h2, (Sl.ok RRdn.ok).mono h3 (fun k hk => hx.at_ hk.1 hk.2.1) (fun k hk => ⟨Nat.lt_of_lt_of_le hk.1 hx.size, hk.2⟩)⟩
theorem NmAt.new {d : Nat} {n : Name} {w : World} {A : Option Addr} {c : Nat} (h : Sl RRdn 1 w (Nd d w.heap.size) n [.slice A n.length c]) (hd : d < w.heap.size) : NmAt d n w.heap.size (w.alloc (.cells #[.slice A n.length c] 24)) :=
 ⟨A, c, heap_alloc_new w _, by omega, (Sl.ok RRdn.ok).mono h (fun k hk => Below.heap_alloc w _ k hk.1) (fun k hk => ⟨by have := hk.1; simp; omega, hk.2, by have := hk.1; omega⟩)⟩
theorem NmAt.store {d g : Nat} {n : Name} {w : World} {u : Value} {A : Option Addr} {c : Nat} (hg : NB g u w) (hgd : g ≠ d) (h : Sl RRdn 1 w (fun k => k < w.heap.size ∧ k ≠ d ∧ k ≠ g) n [.slice A n.length c]) : NmAt d n g (w.setCell ⟨g, 0, none⟩ (.slice A n.length c)) :=
 ⟨A, c, hg.store _, hgd, (Sl.ok RRdn.ok).mono h (fun k hk => Below.heap_setCell w _ _ k hk.2.2) (fun k hk => ⟨by have := hk.1; simp; omega, hk.2⟩)⟩
theorem NmAt.sl {d g : Nat} {n : Name} {w : World} (h : NmAt d n g w) : ∃ (A : Option Addr) (c : Nat), w.cell? ⟨g, 0, none⟩ = some (.slice A n.length c) ∧ n.length ≤ c ∧ g ≠ d ∧ Sl RRdn 1 w (Nd d w.heap.size) n [.slice A n.length c] := by
 obtain ⟨A, c, h1, h2, h3⟩ := h
 exact ⟨A, c, h1.facts.1, h3.len_.2.1, h2, (Sl.ok RRdn.ok).mono h3 (fun _ _ => rfl) (fun k hk => ⟨hk.1, hk.2.1⟩)⟩
end Go.Proofs.YtahamclodagihaaGreatDoor
