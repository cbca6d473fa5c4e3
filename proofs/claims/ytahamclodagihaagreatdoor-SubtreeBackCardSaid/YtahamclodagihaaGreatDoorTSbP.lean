/- The law SubtreeBack, its walk. -/
import Derived.Test.YtahamclodagihaaGreatDoorTSbL
import Derived.Test.YtahamclodagihaaGreatDoorTSbF
import Derived.Test.YtahamclodagihaaGreatDoorTGSbM
namespace Go.Proofs.YtahamclodagihaaGreatDoor
open Go.RowKit
set_option maxRecDepth 100000 in
set_option maxHeartbeats 16000000 in
theorem SubtreeBack_any (l : List Int) (A0 : Option Addr) (n0 c0 : Nat) (w : World) (hmx : Mx w) (htb : Tb w) (h : Sl RInt 1 w (Lt w.heap.size) l [.slice A0 n0 c0]) :
  Calls Tryz.prog 7 #[.slice A0 n0 c0] w fun e w' => e = .returned (.bool true) ∧ Below w.heap.size w w' := by
 have HMX := hide hmx
 have HTB := hide htb
 have K0 := hide h
 clear hmx htb h
 go_enter Tryz.func7, Tryz.ntmps7
 go_wp2_with fail
 refine (New_any l A0 n0 c0 _ K0.out).mono ?_
 rintro e w3 ⟨rfl, hdk3, hb3⟩
 obtain ⟨d, hd⟩ : ∃ d, w.heap.size = d := ⟨_, rfl⟩
 rw [hd] at hdk3 ⊢
 have hdw : w.heap.size ≤ d := by omega
 have HB3 := hide hb3
 have HDK3 := hide hdk3
 clear hdk3 hb3 hd
 go_wp2_with fail
 refine (Subtrees2_any d _ HDK3.out).mono ?_
 rintro e w4 ⟨p, x, A1, A2, c1, c2, b1, b2, S1, S2, hgs, hne, rfl, ⟨h1, h2, h3⟩, hop, hS1, hv1, hox, hS2, hdk4, hex4⟩
 have HB4 := hide (Ex.below HB3.out HB3.out.size hdw hex4)
 have hsm : SmallGs (p ++ x) := fun g hg => by
  rcases List.mem_append.1 hg with h | h
  ·exact hgs.small.1 g h
  ·exact hgs.small.2 g h
 have hkp : Sl RGen 3 w4 (Lt w4.heap.size) p [.slice A1 p.length c1] := (Sl.ok RGen.ok).mono (hop.sl RGen.ok) (fun _ _ => rfl) (fun k hk => by
  show k < _
  rcases hk with hk | hk
  ·have := (hS1 k hk).2; omega
  ·exact hk.2)
 have hkx : Sl RGen 3 w4 (Lt w4.heap.size) x [.slice A2 x.length c2] := (Sl.ok RGen.ok).mono (hox.sl RGen.ok) (fun _ _ => rfl) (fun k hk => by
  show k < _
  rcases hk with hk | hk
  ·exact (hS2 k hk).2
  ·exact hk.2)
 have hck : chkS (p, x) = 0 := hgs.chk9 hne
 obtain ⟨bb, hbb, hdec⟩ := decS_enc hck (fun g hg => (hsm g hg).1) hgs.fit
 have hbl : bb.length ≤ 131077 := by have := encS_len (p, x); rw [hbb] at this; exact this
 obtain ⟨y, hy⟩ : ∃ y : ByteArray, y = ⟨bb.toArray⟩ := ⟨_, rfl⟩
 have hyd : bb = y.data.toList := by rw [hy]
 rw [hyd] at hdec hbl
 rw [size_string] at hbl
 obtain ⟨w5, hw5⟩ : ∃ W, W = w4.alloc (.cells #[.slice A1 p.length c1, .slice A2 x.length c2] 52) := ⟨_, rfl⟩
 obtain ⟨e0, e1⟩ := two_cells hw5
 have hb5 : Below w4.heap.size w4 w5 := by rw [hw5]; exact (Below.refl _ _).alloc (Nat.le_refl _) _
 have HB5 := hide (HB4.out.trans (hb5.mono HB4.out.size))
 have KP := hide ((Sl.ok RGen.ok).below hkp hb5)
 have KX := hide ((Sl.ok RGen.ok).below hkx hb5)
 have EN := hide (show Calls Tryz.prog 34 #[.agg #[.slice A1 p.length c1, .slice A2 x.length c2]] w5 fun e w' => e = .returned (.tuple #[.string y, .int .i64 0]) ∧ Below w5.heap.size w5 w' from by
  have := SEncode_any p x A1 A2 c1 c2 hsm w5 (HMX.out.below HB5.out) KP.out KX.out
  rw [hbb, wrapR, ← hy] at this
  exact this)
 have HDEC := hide hdec
 obtain ⟨-, -, -, -, hsp⟩ := list_encT p (fun g hg => (hgs.2.2.1 g hg).chk9) (fun g hg => (hsm g (by simp [hg])).1)
 obtain ⟨-, -, -, -, hsx⟩ := list_encT x (fun g hg => (hgs.2.2.2 g hg).chk9) (fun g hg => (hsm g (by simp [hg])).1)
 have SP := hide hsp
 have SX := hide hsx
 obtain ⟨g3, hg3⟩ : ∃ g, w4.heap.size = g := ⟨_, rfl⟩
 rw [hg3] at e0 e1
 clear hsp hsx hgs hne h1 h2 h3 hop hS1 hv1 hox hS2 hdk4 hex4 hsm hkp hkx hck hbb hdec hy hyd hb5
 go_upto_region 2 with fail
 rw [← hw5]
 try rw [hg3]
 clear hw5 hg3
 go_wp2_with fail
 refine EN.out.mono ?_
 rintro e w6 ⟨rfl, hb6⟩
 have HB6r := hide hb6
 have HB6 := hide (HB5.out.trans (hb6.mono HB5.out.size))
 have e0 := cell_grows hb6 _ _ e0
 have e1 := cell_grows hb6 _ _ e1
 clear hb6
 obtain ⟨o, ho⟩ : ∃ o, toS (decS y.data.toList) = o := ⟨_, rfl⟩
 obtain ⟨pp, hpp⟩ : ∃ q, q = p.map sortG := ⟨_, rfl⟩
 obtain ⟨xx, hxx⟩ : ∃ q, q = x.map sortG := ⟨_, rfl⟩
 have HO := hide (show toS (decS y.data.toList) = (0, (pp, xx)) by rw [HDEC.out, hpp, hxx]; rfl)
 rw [← hpp] at SP
 rw [← hxx] at SX
 clear ho hpp hxx
 go_wp2_with fail
 refine (gDecodeS_any y (by omega) _ (HMX.out.below HB6.out) (HTB.out.below HB6.out)).mono ?_
 rintro e w8 ⟨Ap, Ax, cp, cx, he8, hp8, hx8, hb8⟩
 rw [HO.out] at he8 hp8 hx8
 simp only at he8 hp8 hx8
 subst he8
 obtain ⟨w9, hw9⟩ : ∃ W, W = w8.alloc (.cells #[.slice Ap pp.length cp, .slice Ax xx.length cx] 52) := ⟨_, rfl⟩
 obtain ⟨i0, i1⟩ := two_cells hw9
 have hb9 : Below w8.heap.size w8 w9 := by rw [hw9]; exact (Below.refl _ _).alloc (Nat.le_refl _) _
 have e0 := cell_grows hb9 _ _ (cell_grows hb8 _ _ e0)
 have e1 := cell_grows hb9 _ _ (cell_grows hb8 _ _ e1)
 have HB9r := hide (HB6r.out.trans ((hb8.trans (hb9.mono hb8.size)).mono HB6r.out.size))
 have HB9 := hide (HB5.out.trans (HB9r.out.mono HB5.out.size))
 have HP9 := hide ((Sl.ok RGen.ok).below hp8 hb9)
 have HX9 := hide ((Sl.ok RGen.ok).below hx8 hb9)
 clear hp8 hx8 hb8 hb9
 go_upto_region 4 with fail
 rw [← hw9]
 clear hw9
 go_wp2_with fail
 refine (sawake_any _ (HMX.out.below HB9.out)).mono ?_
 rintro e w10 ⟨rfl, hb10⟩
 have e0 := cell_grows hb10 _ _ e0
 have e1 := cell_grows hb10 _ _ e1
 have i0 := cell_grows hb10 _ _ i0
 have i1 := cell_grows hb10 _ _ i1
 have HB10 := hide (HB9.out.trans (hb10.mono HB9.out.size))
 have hbA := HB9r.out.trans (hb10.mono HB9r.out.size)
 have SM := hide (SameS_any p x pp xx SP.out SX.out A1 A2 Ap Ax c1 c2 cp cx w10 ((Sl.ok RGen.ok).below KP.out hbA) ((Sl.ok RGen.ok).below KX.out hbA) ((Sl.ok RGen.ok).below HP9.out hb10) ((Sl.ok RGen.ok).below HX9.out hb10))
 clear hb10 hbA
 go_wp2_with fail
 refine SM.out.mono ?_
 rintro e w11 ⟨rfl, hb11⟩
 have HB11 := hide (HB10.out.trans (hb11.mono HB10.out.size))
 clear hb11 e0 e1 i0 i1
 go_wp2_with fail
 go_ret
 exact ⟨rfl, HB11.out⟩
end Go.Proofs.YtahamclodagihaaGreatDoor
