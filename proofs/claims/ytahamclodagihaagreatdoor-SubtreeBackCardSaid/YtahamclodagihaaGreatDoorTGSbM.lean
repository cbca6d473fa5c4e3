/- The reference's SameGenerals, of lists that are the same apart from the order of attributes. -/
import Derived.Test.YtahamclodagihaaGreatDoorTGHosI
import Derived.Test.YtahamclodagihaaGreatDoorTNenM
import Derived.Test.YtahamclodagihaaGreatDoorTGGlA
import Derived.Test.YtahamclodagihaaGreatDoorTSbB
import Derived.Test.YtahamclodagihaaGreatDoorTSbA
namespace Go.Proofs.YtahamclodagihaaGreatDoor
open Go.RowKit
set_option maxRecDepth 100000 in
set_option maxHeartbeats 8000000 in
theorem SameGs_any (l m : List Gen) (hlm : sameGsB l m = true) (A B : Option Addr) (c d : Nat) (w : World) (h1 : Sl RGen 3 w (Lt w.heap.size) l [.slice A l.length c]) (h2 : Sl RGen 3 w (Lt w.heap.size) m [.slice B m.length d]) :
  Calls Tryz.prog 48 #[.slice A l.length c, .slice B m.length d] w fun e w' => e = .returned (.bool true) ∧ Below w.heap.size w w' := by
 obtain ⟨hml, hat⟩ := sameGsB_at hlm
 have HAT := hide hat
 rw [← hml] at h2 ⊢
 have HML := hide hml
 clear hat hlm
 obtain ⟨-, hnc, hcm⟩ := h1.len_
 obtain ⟨-, hnc2, hcm2⟩ := h2.len_
 unfold maxLen at hcm hcm2
 have K1 := hide h1
 have K2 := hide h2
 have t0 : ((l.length : Int) != (l.length : Int)) = false := by simp
 clear h1 h2 hml
 go_enter Tryz.func48, Tryz.ntmps48
 go_wp2_with fail
 clear t0
 go_loopw [13] (fun i wr => ∃ k : Nat, k ≤ l.length ∧ i = .int .i64 k ∧ Below w.heap.size w wr) (fun i _ => l.length - (intOf i).toNat)
 case atStart => exact ⟨0, Nat.zero_le _, rfl, Below.refl _ _⟩
 case round =>
  obtain ⟨k, hk, rfl, hb⟩ := hrel
  by_cases hlt : k < l.length
  ·obtain ⟨b1, o1, t1, A1, c1, hA, hbS1, ht1, d0, d1, d2, hsl1⟩ := K1.out.genAt hlt
   obtain ⟨b2, o2, t2, A2, c2, hB, hbS2, ht2, e0, e1, e2, hsl2⟩ := K2.out.genAt (show k < m.length by have := HML.out; omega)
   subst hA hB
   have hbS1' : b1 < w.heap.size := hbS1
   have hbS2' : b2 < w.heap.size := hbS2
   have hsg := HAT.out k hlt (by have := HML.out; omega)
   obtain ⟨⟨kb, tb, nb⟩, hg⟩ : ∃ g, l[k] = g := ⟨_, rfl⟩
   obtain ⟨⟨kc, tc, nc⟩, hg2⟩ : ∃ g, m[k]'(by have := HML.out; omega) = g := ⟨_, rfl⟩
   rw [hg] at d0 d2 hsl1 ht1 hsg
   rw [hg2] at e0 e2 hsl2 ht2 hsg
   simp only [sameGB, Bool.and_eq_true, beq_iff_eq] at hsg
   simp only at d0 d2 e0 e2 hsl1 hsl2 ht1 ht2
   obtain ⟨⟨rfl, rfl⟩, hnn⟩ := hsg
   obtain rfl : t1 = t2 := ByteArray.ext (Array.toList_inj.1 (ht1.trans ht2.symm))
   have hbd : Below wr.heap.size wr wr.drew := (Below.refl _ _).drew
   have hb0 : Below wr.heap.size wr wr := Below.refl _ _
   obtain ⟨p1, hp1⟩ : ∃ p, p = o1 + k * 3 := ⟨_, rfl⟩
   obtain ⟨p2, hp2⟩ : ∃ p, p = o2 + k * 3 := ⟨_, rfl⟩
   have hs : Two6 b1 p1 b2 p2 (.int .i64 kb) (.string t1) (.slice A1 nb.length c1) (.int .i64 kb) (.string t1) (.slice A2 nc.length c2) wr wr := by
    rw [hp1, hp2]
    exact ⟨(hb.cell (p := ⟨b1, o1 + k * 3, none⟩) hbS1').trans d0, (hb.cell (p := ⟨b1, o1 + k * 3 + 1, none⟩) hbS1').trans d1, (hb.cell (p := ⟨b1, o1 + k * 3 + 2, none⟩) hbS1').trans d2, (hb.cell (p := ⟨b2, o2 + k * 3, none⟩) hbS2').trans e0, (hb.cell (p := ⟨b2, o2 + k * 3 + 1, none⟩) hbS2').trans e1, (hb.cell (p := ⟨b2, o2 + k * 3 + 2, none⟩) hbS2').trans e2, hb0⟩
   obtain ⟨f0, f1, f2, f3, f4, f5, f6⟩ := hs
   have f0d : wr.drew.cell? ⟨b1, p1, none⟩ = some (.int .i64 kb) := f0
   have f1d : wr.drew.cell? ⟨b1, p1 + 1, none⟩ = some (.string t1) := f1
   have f2d : wr.drew.cell? ⟨b1, p1 + 2, none⟩ = some (.slice A1 nb.length c1) := f2
   have f3d : wr.drew.cell? ⟨b2, p2, none⟩ = some (.int .i64 kb) := f3
   have f4d : wr.drew.cell? ⟨b2, p2 + 1, none⟩ = some (.string t1) := f4
   have f5d : wr.drew.cell? ⟨b2, p2 + 2, none⟩ = some (.slice A2 nc.length c2) := f5
   have EX := hide (fun W (h0 : W.cell? ⟨b1, p1, none⟩ = some (.int .i64 kb)) (h1 : W.cell? ⟨b1, p1 + 1, none⟩ = some (.string t1)) (h2 : W.cell? ⟨b1, p1 + 2, none⟩ = some (.slice A1 nb.length c1)) (h3 : W.cell? ⟨b2, p2, none⟩ = some (.int .i64 kb)) (h4 : W.cell? ⟨b2, p2 + 1, none⟩ = some (.string t1)) (h5 : W.cell? ⟨b2, p2 + 2, none⟩ = some (.slice A2 nc.length c2)) (h6 : Below wr.heap.size wr W) =>
    (Same_true nb nc hnn A1 A2 c1 c2 W ((Sl.ok RRdn.ok).below hsl1 (hb.trans (h6.mono hb.size))) ((Sl.ok RRdn.ok).below hsl2 (hb.trans (h6.mono hb.size)))).mono (R' := fun e W' => e = .returned (.bool true) ∧ W'.cell? ⟨b1, p1, none⟩ = some (.int .i64 kb) ∧ W'.cell? ⟨b1, p1 + 1, none⟩ = some (.string t1) ∧ W'.cell? ⟨b1, p1 + 2, none⟩ = some (.slice A1 nb.length c1) ∧ W'.cell? ⟨b2, p2, none⟩ = some (.int .i64 kb) ∧ W'.cell? ⟨b2, p2 + 1, none⟩ = some (.string t1) ∧ W'.cell? ⟨b2, p2 + 2, none⟩ = some (.slice A2 nc.length c2) ∧ Below wr.heap.size wr W')
     fun _ _ ⟨he, hb9⟩ => ⟨he, cell_grows hb9 _ _ h0, cell_grows hb9 _ _ h1, cell_grows hb9 _ _ h2, cell_grows hb9 _ _ h3, cell_grows hb9 _ _ h4, cell_grows hb9 _ _ h5, h6.trans (hb9.mono h6.size)⟩)
   have s1 : (kb != kb) = false := by simp
   have s2 : (t1.toList != t1.toList) = false := by simp
   have hk0 : (0 : Int) ≤ (k : Int) := by omega
   have hkl : (k : Int) < (l.length : Int) := by omega
   have HBW := hide hb
   clear d0 d1 d2 e0 e1 e2 hsl1 hsl2 hg hg2 hnn ht1 ht2 hb hbS1 hbS2 hbS1' hbS2'
   subst hp1 hp2
   go_upto_region 6 with (fail)
   go_region_held3 (fun W => W.cell? ⟨b1, o1 + k * 3, none⟩ = some (.int .i64 kb) ∧ W.cell? ⟨b1, o1 + k * 3 + 1, none⟩ = some (.string t1) ∧ W.cell? ⟨b1, o1 + k * 3 + 2, none⟩ = some (.slice A1 nb.length c1) ∧ W.cell? ⟨b2, o2 + k * 3, none⟩ = some (.int .i64 kb) ∧ W.cell? ⟨b2, o2 + k * 3 + 1, none⟩ = some (.string t1) ∧ W.cell? ⟨b2, o2 + k * 3 + 2, none⟩ = some (.slice A2 nc.length c2) ∧ Below wr.heap.size wr W)
    (first | exact ⟨hs1, hs2, hs3, hs4, hs5, hs6, hs7⟩ | exact ⟨f0, f1, f2, f3, f4, f5, f6⟩ | exact ⟨f0d, f1d, f2d, f3d, f4d, f5d, hbd⟩)
    (first
     | (go_at_call 110; (first | (with_reducible refine (EX.out _ hs1 hs2 hs3 hs4 hs5 hs6 hs7).mono ?_) | (with_reducible refine (EX.out wr.drew f0d f1d f2d f3d f4d f5d hbd).mono ?_) | fail); rintro e wn ⟨rfl, hs1, hs2, hs3, hs4, hs5, hs6, hs7⟩)
     | fail)
   all_goals
    have HBN := hide (HBW.out.trans (hs7.mono HBW.out.size))
    go_wp2_with fail
    go_roundw
    case rel => exact ⟨k + 1, by omega, by go_num, HBN.out⟩
    case measure => simp [intOf]; omega
  ·go_wp2_with fail
   go_ret
   exact ⟨rfl, hb⟩
end Go.Proofs.YtahamclodagihaaGreatDoor
namespace Go.Proofs.YtahamclodagihaaGreatDoor
open Go.RowKit
set_option maxRecDepth 100000 in
set_option maxHeartbeats 4000000 in
theorem SameS_any (p x p2 x2 : List Gen) (hp : sameGsB p p2 = true) (hx : sameGsB x x2 = true) (A B A2 B2 : Option Addr) (c d c2 d2 : Nat) (w : World)
  (h1 : Sl RGen 3 w (Lt w.heap.size) p [.slice A p.length c]) (h2 : Sl RGen 3 w (Lt w.heap.size) x [.slice B x.length d])
  (h3 : Sl RGen 3 w (Lt w.heap.size) p2 [.slice A2 p2.length c2]) (h4 : Sl RGen 3 w (Lt w.heap.size) x2 [.slice B2 x2.length d2]) :
  Calls Tryz.prog 35 #[.agg #[.slice A p.length c, .slice B x.length d], .agg #[.slice A2 p2.length c2, .slice B2 x2.length d2]] w fun e w' => e = .returned (.bool true) ∧ Below w.heap.size w w' := by
 obtain ⟨wa, hwa⟩ : ∃ W, W = w.alloc (.cells #[.slice A p.length c, .slice B x.length d] 52) := ⟨_, rfl⟩
 obtain ⟨wb, hwb⟩ : ∃ W, W = wa.alloc (.cells #[.slice A2 p2.length c2, .slice B2 x2.length d2] 52) := ⟨_, rfl⟩
 obtain ⟨a0, a1⟩ := two_cells hwa
 obtain ⟨b0, b1⟩ := two_cells hwb
 have hza : wa.heap.size = w.heap.size + 1 := by rw [hwa]; simp
 have hba : Below w.heap.size w wa := by rw [hwa]; exact (Below.refl _ _).alloc (Nat.le_refl _) _
 have hbb : Below wa.heap.size wa wb := by rw [hwb]; exact (Below.refl _ _).alloc (Nat.le_refl _) _
 have a0 := cell_grows hbb _ _ a0
 have a1 := cell_grows hbb _ _ a1
 rw [hza] at b0 b1
 have HB := hide (hba.trans (hbb.mono hba.size))
 have E1 := hide (SameGs_any p p2 hp A A2 c c2 wb ((Sl.ok RGen.ok).below h1 HB.out) ((Sl.ok RGen.ok).below h3 HB.out))
 have E2 := hide (fun W (hb : Below wb.heap.size wb W) => SameGs_any x x2 hx B B2 d d2 W ((Sl.ok RGen.ok).below ((Sl.ok RGen.ok).below h2 HB.out) hb) ((Sl.ok RGen.ok).below ((Sl.ok RGen.ok).below h4 HB.out) hb))
 have HWB := hide (show wb = (w.alloc (.cells #[.slice A p.length c, .slice B x.length d] 52)).alloc (.cells #[.slice A2 p2.length c2, .slice B2 x2.length d2] 52) by rw [hwb, hwa])
 obtain ⟨g1, hg1⟩ : ∃ g, g = w.heap.size := ⟨_, rfl⟩
 obtain ⟨g2, hg2⟩ : ∃ g, g = w.heap.size + 1 := ⟨_, rfl⟩
 rw [← hg1] at a0 a1
 rw [← hg2] at b0 b1
 have HG1 := hide hg1
 have HG2 := hide hg2
 clear hwa hwb hza hba hbb h1 h2 h3 h4 hp hx hg1 hg2
 go_enter Tryz.func35, Tryz.ntmps35
 go_upto_region 1 with fail
 rw [← HWB.out]
 try rw [← HG2.out]
 try rw [← HG1.out]
 go_wp2_with fail
 refine E1.out.mono ?_
 rintro e w1 ⟨rfl, hb1⟩
 have a1 := cell_grows hb1 _ _ a1
 have b1 := cell_grows hb1 _ _ b1
 have HB1 := hide hb1
 clear hb1 a0 b0
 go_wp2_with fail
 refine (E2.out _ HB1.out).mono ?_
 rintro e w2 ⟨rfl, hb2⟩
 have HB2 := hide (HB.out.trans ((HB1.out.trans (hb2.mono HB1.out.size)).mono HB.out.size))
 clear hb2 a1 b1
 go_wp2_with fail
 go_ret
 exact ⟨rfl, HB2.out⟩
end Go.Proofs.YtahamclodagihaaGreatDoor
namespace Go.Proofs.YtahamclodagihaaGreatDoor
open Go.RowKit
theorem GoodN.encB_len {n : Name} (h : GoodN n) : (encB n).length ≤ 6540 := by
 obtain ⟨-, hr⟩ := (chkN_iff n).1 h.chk
 have hq : ∀ r ∈ n, (encQ r).length ≤ 2175 := fun r hrn => by
  have hok := hr r hrn
  have h1 := flat_len 1085 (ordF (r.map encA)) (fun x hx => by
   obtain ⟨a, ha, rfl⟩ := List.mem_map.1 ((ordF_perm _).mem_iff.1 hx)
   exact encA_len (hok.2.2.1 a ha))
  have h2 : (ordF (r.map encA)).length = r.length := by rw [(ordF_perm _).length_eq, List.length_map]
  have h3 : r.length ≤ 2 := by rcases h.2 r hrn with ⟨a, _, rfl⟩ | ⟨a, _, b, _, rfl, _⟩ <;> simp
  rw [h2] at h1
  have := Nat.mul_le_mul_right 1085 h3
  rw [encQ, wrapW_len]
  have := lenB_le (ordF (r.map encA)).flatten.length
  omega
 have h1 := flat_len 2175 (n.map encQ) (fun x hx => by
  obtain ⟨r, hr', rfl⟩ := List.mem_map.1 hx
  exact hq r hr')
 rw [List.length_map] at h1
 have := Nat.mul_le_mul_right 2175 h.1
 rw [encB, wrapW_len, List.flatMap_def]
 have := lenB_le (n.map encQ).flatten.length
 omega
theorem bchk_mail : ∀ t ∈ bMail, chkG (1, t, []) true = 0 := by decide +kernel
theorem bchk_dns : ∀ t ∈ bDns, chkG (2, t, []) true = 0 := by decide +kernel
theorem bchk_addr : ∀ t ∈ bAddr, chkG (7, t, []) true = 0 := by decide +kernel
theorem GoodBase.chk9 {g : Gen} (h : GoodBase g) : chkG g true = 0 := by
 rcases h with ⟨t, ht, rfl⟩ | ⟨t, ht, rfl⟩ | ⟨t, ht, rfl⟩ | ⟨n, hn, rfl⟩
 ·exact bchk_mail t ht
 ·exact bchk_dns t ht
 ·exact bchk_addr t ht
 ·exact hn.chk
theorem GoodBase.tree_len {g : Gen} (h : GoodBase g) : (treeB g).length ≤ 6560 := by
 have k1 : ∀ t ∈ bMail, t.length ≤ 100 := by decide
 have k2 : ∀ t ∈ bDns, t.length ≤ 100 := by decide
 have k3 : ∀ t ∈ bAddr, t.length ≤ 100 := by decide
 rw [treeB, wrapW_len]
 have hl := lenB_le (encGB g).length
 have : (encGB g).length ≤ 6550 := by
  rcases h with ⟨t, ht, rfl⟩ | ⟨t, ht, rfl⟩ | ⟨t, ht, rfl⟩ | ⟨n, hn, rfl⟩
  ·have := k1 t ht
   have h2 := lenB_le t.length
   show (wrapW _ t).length ≤ _
   rw [wrapW_len]; omega
  ·have := k2 t ht
   have h2 := lenB_le t.length
   show (wrapW _ t).length ≤ _
   rw [wrapW_len]; omega
  ·have := k3 t ht
   have h2 := lenB_le t.length
   show (wrapW _ t).length ≤ _
   rw [wrapW_len]; omega
  ·have := hn.encB_len
   have h2 := lenB_le (encB n).length
   show (wrapW _ (encB n)).length ≤ _
   rw [wrapW_len]; omega
 omega
theorem GoodSub.chk9 {s : Sub} (h : GoodSub s) (hne : s.1 = [] → s.2 = [] → False) : chkS s = 0 := by
 have h1 := h.1
 have h2 := h.2.1
 rw [chkS, if_neg (fun hh => hne (List.eq_nil_of_length_eq_zero hh.1) (List.eq_nil_of_length_eq_zero hh.2)), if_neg (by omega), chkGs_iff]
 intro g hg
 rcases List.mem_append.1 hg with hg | hg
 ·exact (h.2.2.1 g hg).chk9
 ·exact (h.2.2.2 g hg).chk9
theorem GoodSub.fit {s : Sub} (h : GoodSub s) : (s.1.flatMap treeB).length ≤ 65000 ∧ (s.2.flatMap treeB).length ≤ 65000 := by
 have key : ∀ l : List Gen, l.length ≤ 4 → (∀ g ∈ l, GoodBase g) → (l.flatMap treeB).length ≤ 65000 := fun l hl hg => by
  have h1 := flat_len 6560 (l.map treeB) (fun x hx => by
   obtain ⟨g, hg', rfl⟩ := List.mem_map.1 hx
   exact (hg g hg').tree_len)
  rw [List.length_map] at h1
  have := Nat.mul_le_mul_right 6560 hl
  rw [List.flatMap_def]
  omega
 exact ⟨key _ h.1 h.2.2.1, key _ h.2.1 h.2.2.2⟩
end Go.Proofs.YtahamclodagihaaGreatDoor
