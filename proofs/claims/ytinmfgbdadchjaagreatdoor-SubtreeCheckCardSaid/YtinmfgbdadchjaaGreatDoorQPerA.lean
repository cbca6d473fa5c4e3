/- The law SubtreePermits: sizes that come in; two equal states. -/
import Derived.Test.YtinmfgbdadchjaaGreatDoorQGHosI
import Derived.Test.YtinmfgbdadchjaaGreatDoorQGnM
import Derived.Test.YtinmfgbdadchjaaGreatDoorQGLibI
namespace Go.Proofs.YtinmfgbdadchjaaGreatDoor
open Go.RowKit
def shortS (s : Sub) : Bool := shortGs s.1 && shortGs s.2
theorem shortN_cp {n : Name} (h : shortN n = true) : CpN n := by
 simp only [shortN, shortR, Bool.and_eq_true, decide_eq_true_eq, List.all_eq_true] at h
 exact ⟨by omega, fun r hr => by have := (h.2 r hr).1; omega⟩
theorem shortGs_cp {l : List Gen} (h : shortGs l = true) : CpL l := by
 simp only [shortGs, Bool.and_eq_true, decide_eq_true_eq, List.all_eq_true] at h
 refine ⟨by omega, fun g hg => ?_⟩
 have h1 := h.2 g hg
 simp only [shortG, Bool.and_eq_true, decide_eq_true_eq] at h1
 exact shortN_cp h1.2
theorem shortS_cp {s : Sub} (h : shortS s = true) : CpS s := by
 simp only [shortS, Bool.and_eq_true] at h
 exact ⟨shortGs_cp h.1, shortGs_cp h.2⟩
theorem shortS_small {s : Sub} (h : shortS s = true) : SmallGs s.1 ∧ SmallGs s.2 := by
 simp only [shortS, Bool.and_eq_true] at h
 exact ⟨shortGs_small h.1, shortGs_small h.2⟩
set_option maxRecDepth 100000 in
set_option maxHeartbeats 4000000 in
theorem short_any (p x : List Gen) (A B : Option Addr) (c d : Nat) (q : Bool) (hq : shortS (p, x) = q) (w : World) (h1 : Sl RGen 3 w (Lt w.heap.size) p [.slice A p.length c]) (h2 : Sl RGen 3 w (Lt w.heap.size) x [.slice B x.length d]) :
  Calls Tryz.prog 45 #[.agg #[.slice A p.length c, .slice B x.length d]] w fun e w' => e = .returned (.bool q) ∧ Below w.heap.size w w' := by
 obtain ⟨q1, hq1⟩ : ∃ q, shortGs p = q := ⟨_, rfl⟩
 obtain ⟨q2, hq2⟩ : ∃ q, shortGs x = q := ⟨_, rfl⟩
 have HQ := hide (show (q1 && q2) = q by rw [← hq, shortS, hq1, hq2])
 obtain ⟨wa, hwa⟩ : ∃ wa, wa = w.alloc (.cells #[.slice A p.length c, .slice B x.length d] 60) := ⟨_, rfl⟩
 have a0 : wa.cell? ⟨w.heap.size, 0, none⟩ = some (.slice A p.length c) := by rw [hwa, World.cell?_alloc_new]; rfl
 have a1 : wa.cell? ⟨w.heap.size, 1, none⟩ = some (.slice B x.length d) := by rw [hwa, World.cell?_alloc_new]; rfl
 have hba : Below w.heap.size w wa := by rw [hwa]; exact (Below.refl _ _).alloc (Nat.le_refl _) _
 have HWA := hide hwa
 have HBA := hide hba
 have C1 := hide (ShortNames_any p A c q1 hq1 wa ((Sl.ok RGen.ok).below h1 hba))
 have C2 := hide (fun W (h : Below wa.heap.size wa W) => ShortNames_any x B d q2 hq2 W ((Sl.ok RGen.ok).below h2 (hba.trans (h.mono hba.size))))
 clear hq hq1 hq2 hwa hba h1 h2
 go_enter Tryz.func45, Tryz.ntmps45
 go_upto_region 1 with (fail)
 rw [← HWA.out]
 go_wp2_with fail
 refine C1.out.mono ?_
 rintro e w1 ⟨rfl, hb1⟩
 have HB1 := hide hb1
 have a1 := cell_grows hb1 _ _ a1
 clear hb1 a0
 cases q1
 ·have HY := hide (show false = q from HQ.out)
  go_wp2_with fail
  go_ret
  exact ⟨ret_bool HY.out, HBA.out.trans (HB1.out.mono HBA.out.size)⟩
 ·have HY := hide (show q2 = q from HQ.out)
  go_wp2_with fail
  refine (C2.out _ HB1.out).mono ?_
  rintro e w2 ⟨rfl, hb2⟩
  have HB2 := hide (HBA.out.trans ((HB1.out.trans (hb2.mono HB1.out.size)).mono HBA.out.size))
  clear hb2 a1
  go_wp2_with fail
  go_ret
  exact ⟨ret_bool HY.out, HB2.out⟩
end Go.Proofs.YtinmfgbdadchjaaGreatDoor
