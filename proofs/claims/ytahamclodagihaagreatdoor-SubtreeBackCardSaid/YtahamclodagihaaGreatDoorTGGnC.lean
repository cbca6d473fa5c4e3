/- The functions of package subtree: allows, Permits. -/
import Derived.Test.YtahamclodagihaaGreatDoorTGHosI
import Derived.Test.YtahamclodagihaaGreatDoorTGNamY
import Derived.Test.YtahamclodagihaaGreatDoorTGSplit
namespace Go.Proofs.YtahamclodagihaaGreatDoor
open Go.RowKit
abbrev Sub := List Gen × List Gen
def RSub : Rep Sub := fun w S s cs => ∃ v1 v2, cs = [v1, v2] ∧ Sl RGen 3 w S s.1 [v1] ∧ Sl RGen 3 w S s.2 [v2]
theorem RSub.ok : RepOk RSub 2 := by
 refine ⟨?_, ?_, ?_⟩
 ·rintro w S x cs ⟨v1, v2, rfl, _⟩; rfl
 ·rintro w S x cs ⟨v1, v2, rfl, h1, h2⟩ u hu
  simp only [List.mem_cons, List.not_mem_nil, or_false] at hu
  rcases hu with rfl | rfl
  ·exact (Sl.ok RGen.ok).one h1 _ (by simp)
  ·exact (Sl.ok RGen.ok).one h2 _ (by simp)
 ·rintro w w' S S' x cs ⟨v1, v2, rfl, h1, h2⟩ hk hS
  exact ⟨v1, v2, rfl, (Sl.ok RGen.ok).mono h1 hk hS, (Sl.ok RGen.ok).mono h2 hk hS⟩
theorem Sl.subAt {w : World} {S : Nat → Prop} {A : Option Addr} {n c : Nat} {l : List Sub} (h : Sl RSub 2 w S l [.slice A n c]) {i : Nat} (hi : i < l.length) :
    ∃ (b off : Nat) (A1 : Option Addr) (c1 : Nat) (A2 : Option Addr) (c2 : Nat), A = some ⟨b, off, none⟩ ∧ S b ∧ w.cell? ⟨b, off + i * 2, none⟩ = some (.slice A1 l[i].1.length c1) ∧ w.cell? ⟨b, off + i * 2 + 1, none⟩ = some (.slice A2 l[i].2.length c2) ∧
      Sl RGen 3 w S l[i].1 [.slice A1 l[i].1.length c1] ∧ Sl RGen 3 w S l[i].2 [.slice A2 l[i].2.length c2] := by
  obtain ⟨b, off, xs, hA, hb, ⟨v1, v2, hxs, hn1, hn2⟩, hh⟩ := h.at_ hi
  subst hxs
  obtain ⟨A1, c1, hv⟩ := hn1.shape
  subst hv
  obtain ⟨A2, c2, hv⟩ := hn2.shape
  subst hv
  exact ⟨b, off, A1, c1, A2, c2, hA, hb, hh 0 _ rfl, hh 1 _ rfl, hn1, hn2⟩
def SmallS (st : List Sub) : Prop := ∀ s ∈ st, SmallGs s.1 ∧ SmallGs s.2
def allowG (g : Gen) (s : Sub) : Bool := !(limitsG s.1 g.1) || insideG g s.1
def allowsG (st : List Sub) (g : Gen) : Bool := st.all (allowG g)
def permitsG (st : List Sub) (g : Gen) : Bool := !(st.any fun s => insideG g s.2) && allowsG st g
set_option maxRecDepth 100000 in
set_option maxHeartbeats 8000000 in
theorem allows_any (g : Gen) (t : ByteArray) (A : Option Addr) (c : Nat) (st : List Sub) (B : Option Addr) (d : Nat) (ht : t.data.toList = g.2.1) (hg : SmallG g) (hl : SmallS st) (q : Bool) (hq : allowsG st g = q) (w : World) (hmx : Mx w)
  (h1 : Sl RRdn 1 w (Lt w.heap.size) g.2.2 [.slice A g.2.2.length c]) (h2 : Sl RSub 2 w (Lt w.heap.size) st [.slice B st.length d]) :
  Calls Tryz.prog 141 #[.agg #[.slice B st.length d], .agg #[.int .i64 g.1, .string t, .slice A g.2.2.length c]] w fun e w' => e = .returned (.bool q) ∧ Below w.heap.size w w' := by
 have H0 := hide (show (st.drop 0).all (allowG g) = q from hq)
 clear hq
 obtain ⟨-, hlc, hlm⟩ := h2.len_
 unfold maxLen at hlm
 have HMX := hide hmx
 have K1 := hide h1
 have K2 := hide h2
 have HG := hide hg
 have HL := hide hl
 have HT := hide ht
 clear hmx h1 h2 hg hl ht
 obtain ⟨wa, hwa⟩ : ∃ wa, wa = (w.alloc (.cells #[.slice B st.length d] 109)).alloc (.cells #[.int .i64 g.1, .string t, .slice A g.2.2.length c] 62) := ⟨_, rfl⟩
 have s0 : wa.cell? ⟨w.heap.size, 0, none⟩ = some (.slice B st.length d) := by rw [hwa, World.cell?_alloc_lt _ _ _ (by simp), World.cell?_alloc_new]; rfl
 have hz : (w.alloc (.cells #[.slice B st.length d] 109)).heap.size = w.heap.size + 1 := by simp
 have a0 : wa.cell? ⟨w.heap.size + 1, 0, none⟩ = some (.int .i64 g.1) := by rw [hwa, ← hz, World.cell?_alloc_new]; rfl
 have a1 : wa.cell? ⟨w.heap.size + 1, 1, none⟩ = some (.string t) := by rw [hwa, ← hz, World.cell?_alloc_new]; rfl
 have a2 : wa.cell? ⟨w.heap.size + 1, 2, none⟩ = some (.slice A g.2.2.length c) := by rw [hwa, ← hz, World.cell?_alloc_new]; rfl
 have hba : Below w.heap.size w wa := by rw [hwa]; exact ((Below.refl _ _).alloc (Nat.le_refl _) _).alloc (by simp) _
 obtain ⟨kg, hkg⟩ : ∃ k, g.1 = k := ⟨_, rfl⟩
 obtain ⟨ln, hln⟩ : ∃ n, g.2.2.length = n := ⟨_, rfl⟩
 rw [hkg] at a0
 rw [hln] at a2
 have S0 := hide s0
 have A0 := hide a0
 have A1 := hide a1
 have A2 := hide a2
 have HBA := hide hba
 have HWA := hide hwa
 have HKG := hide hkg
 have HLN := hide hln
 rw [hkg, hln]
 rw [hkg, hln] at HWA
 clear s0 hz a0 a1 a2 hba hwa hkg hln
 go_enter Tryz.func141, Tryz.ntmps141
 go_wp2_with fail
 rw [← HWA.out]
 obtain ⟨gg, hgg⟩ : ∃ gg, gg = w.heap.size + 1 := ⟨_, rfl⟩
 rw [← hgg] at A0 A1 A2 ⊢
 clear HWA hgg
 go_loopw [10] (fun i wr => ∃ k : Nat, k ≤ st.length ∧ i = .int .i64 k ∧ Below wa.heap.size wa wr ∧ Hid ((st.drop k).all (allowG g) = q)) (fun i _ => st.length - (intOf i).toNat)
 case atStart => exact ⟨0, Nat.zero_le _, rfl, Below.refl _ _, H0⟩
 case round =>
  obtain ⟨k, hk, rfl, hb, H⟩ := hrel
  have hbw := HBA.out.trans (hb.mono HBA.out.size)
  have HBW := hide hbw
  by_cases hlt : k < st.length
  ·obtain ⟨b2, o2, P1, c1, P2, c2, hB, hbS, d0, d1, hs1, hs2⟩ := K2.out.subAt hlt
   subst hB
   have hbS' : b2 < w.heap.size := hbS
   have e0 := cell_grows hb _ _ A0.out
   have e1 := cell_grows hb _ _ A1.out
   have e2 := cell_grows hb _ _ A2.out
   have f0 := (hbw.cell (p := ⟨b2, o2 + k * 2, none⟩) hbS').trans d0
   have f1 := (hbw.cell (p := ⟨b2, o2 + k * 2 + 1, none⟩) hbS').trans d1
   obtain ⟨wy, hwy⟩ : ∃ wy, wy = wr.alloc (.cells #[.slice P1 st[k].1.length c1, .slice P2 st[k].2.length c2] 52) := ⟨_, rfl⟩
   have hby : Below wr.heap.size wr wy := by rw [hwy]; exact (Below.refl _ _).alloc (Nat.le_refl _) _
   have y0 : wy.cell? ⟨wr.heap.size, 0, none⟩ = some (.slice P1 st[k].1.length c1) := by rw [hwy, World.cell?_alloc_new]; rfl
   have y1 : wy.cell? ⟨wr.heap.size, 1, none⟩ = some (.slice P2 st[k].2.length c2) := by rw [hwy, World.cell?_alloc_new]; rfl
   have x0 := cell_grows hby _ _ e0
   have x1 := cell_grows hby _ _ e1
   have x2 := cell_grows hby _ _ e2
   have hbwy := hbw.trans (hby.mono hbw.size)
   have HBY := hide (hb.trans (hby.mono hb.size))
   have SP1 := hide ((Sl.ok RGen.ok).below hs1 hbwy)
   have SP2 := hide ((Sl.ok RGen.ok).below hs2 hbwy)
   have SN := hide ((Sl.ok RRdn.ok).below K1.out hbwy)
   have HM := hide (HMX.out.below hbwy)
   obtain ⟨hsm1, hsm2⟩ := HL.out st[k] (List.getElem_mem hlt)
   obtain ⟨p1, hp1⟩ : ∃ p, limitsG st[k].1 kg = p := ⟨_, rfl⟩
   obtain ⟨p2, hp2⟩ : ∃ p, insideG g st[k].1 = p := ⟨_, rfl⟩
   have HX := hide (show ((!p1 || p2) && (st.drop (k + 1)).all (allowG g)) = q by rw [← H.out, List.drop_eq_getElem_cons hlt, List.all_cons, allowG, HKG.out, hp1, hp2])
   have HP1 := hide hp1
   have HP2 := hide hp2
   have HSM := hide hsm1
   obtain ⟨sk, hsk⟩ : ∃ sk, st[k].1 = sk := ⟨_, rfl⟩
   obtain ⟨l2, hl2⟩ : ∃ l2, st[k].2.length = l2 := ⟨_, rfl⟩
   rw [hsk] at f0 y0 SP1 HP1 HP2 HSM hwy
   rw [hl2] at f1 y1 hwy
   have IN := hide (fun W hm hn hs => HKG.out ▸ HLN.out ▸ inside_any g t A c sk P1 c1 HT.out HG.out HSM.out p2 HP2.out W hm hn hs)
   have HSN := SN
   clear hb hbw d0 d1 hs1 hs2 hsm1 hsm2 hp1 hp2 hsk hl2 hby hbwy e0 e1 e2
   go_upto_region 4 with (fail)
   rw [← hwy]
   clear hwy f0 f1
   go_wp2_with fail
   refine (limits_any sk P1 c1 kg p1 HP1.out _ SP1.out).mono ?_
   rintro e w5 ⟨rfl, hb5⟩
   cases p1
   ·have HY := hide (show (st.drop (k + 1)).all (allowG g) = q by rw [← HX.out]; rfl)
    have HB5 := hide (HBY.out.trans (hb5.mono HBY.out.size))
    clear hb5 x0 x1 x2 y0 y1
    go_wp2_with fail
    go_roundw
    case rel => exact ⟨k + 1, by omega, by go_num, HB5.out, HY⟩
    case measure => simp [intOf]; omega
   ·have z0 := cell_grows hb5 _ _ x0
    have z1 := cell_grows hb5 _ _ x1
    have z2 := cell_grows hb5 _ _ x2
    have zy := cell_grows hb5 _ _ y0
    have SP5 := hide ((Sl.ok RGen.ok).below SP1.out hb5)
    have SN5 := hide ((Sl.ok RRdn.ok).below SN.out hb5)
    have HM5 := hide (HM.out.below hb5)
    have HB5 := hide (HBY.out.trans (hb5.mono HBY.out.size))
    have HW5 := hide (HBA.out.trans (HB5.out.mono HBA.out.size))
    clear hb5 x0 x1 x2 y0 y1
    go_wp2_with fail
    refine (IN.out _ HM5.out (HLN.out ▸ SN5.out) SP5.out).mono ?_
    rintro e w6 ⟨rfl, hb6⟩
    have HB6 := hide (HB5.out.trans (hb6.mono HB5.out.size))
    have HW6 := hide (HW5.out.trans (hb6.mono HW5.out.size))
    clear hb6 z0 z1 z2 zy
    cases p2
    ·have HY := hide (show false = q by rw [← HX.out]; rfl)
     go_wp2_with fail
     go_ret
     exact ⟨ret_bool HY.out, HW6.out⟩
    ·have HY := hide (show (st.drop (k + 1)).all (allowG g) = q by rw [← HX.out]; rfl)
     go_wp2_with fail
     go_roundw
     case rel => exact ⟨k + 1, by omega, by go_num, HB6.out, HY⟩
     case measure => simp [intOf]; omega
  ·have HY := hide (show true = q by rw [← H.out, List.drop_of_length_le (by omega)]; rfl)
   clear hb hbw
   go_wp2_with fail
   go_ret
   exact ⟨ret_bool HY.out, HBW.out⟩
set_option maxRecDepth 100000 in
set_option maxHeartbeats 8000000 in
theorem permits_any (g : Gen) (t : ByteArray) (A : Option Addr) (c : Nat) (st : List Sub) (B : Option Addr) (d : Nat) (ht : t.data.toList = g.2.1) (hg : SmallG g) (hl : SmallS st) (q : Bool) (hq : permitsG st g = q) (w : World) (hmx : Mx w)
  (h1 : Sl RRdn 1 w (Lt w.heap.size) g.2.2 [.slice A g.2.2.length c]) (h2 : Sl RSub 2 w (Lt w.heap.size) st [.slice B st.length d]) :
  Calls Tryz.prog 77 #[.agg #[.slice B st.length d], .agg #[.int .i64 g.1, .string t, .slice A g.2.2.length c]] w fun e w' => e = .returned (.bool q) ∧ Below w.heap.size w w' := by
 obtain ⟨pa, hpa⟩ : ∃ p, allowsG st g = p := ⟨_, rfl⟩
 have H0 := hide (show (!((st.drop 0).any fun s => insideG g s.2) && pa) = q by rw [← hq, permitsG, hpa]; rfl)
 have HPA := hide hpa
 clear hq hpa
 obtain ⟨-, hlc, hlm⟩ := h2.len_
 unfold maxLen at hlm
 have HMX := hide hmx
 have K1 := hide h1
 have K2 := hide h2
 have HG := hide hg
 have HL := hide hl
 have HT := hide ht
 clear hmx h1 h2 hg hl ht
 obtain ⟨wa, hwa⟩ : ∃ wa, wa = (w.alloc (.cells #[.slice B st.length d] 109)).alloc (.cells #[.int .i64 g.1, .string t, .slice A g.2.2.length c] 62) := ⟨_, rfl⟩
 have s0 : wa.cell? ⟨w.heap.size, 0, none⟩ = some (.slice B st.length d) := by rw [hwa, World.cell?_alloc_lt _ _ _ (by simp), World.cell?_alloc_new]; rfl
 have hz : (w.alloc (.cells #[.slice B st.length d] 109)).heap.size = w.heap.size + 1 := by simp
 have a0 : wa.cell? ⟨w.heap.size + 1, 0, none⟩ = some (.int .i64 g.1) := by rw [hwa, ← hz, World.cell?_alloc_new]; rfl
 have a1 : wa.cell? ⟨w.heap.size + 1, 1, none⟩ = some (.string t) := by rw [hwa, ← hz, World.cell?_alloc_new]; rfl
 have a2 : wa.cell? ⟨w.heap.size + 1, 2, none⟩ = some (.slice A g.2.2.length c) := by rw [hwa, ← hz, World.cell?_alloc_new]; rfl
 have hba : Below w.heap.size w wa := by rw [hwa]; exact ((Below.refl _ _).alloc (Nat.le_refl _) _).alloc (by simp) _
 obtain ⟨kg, hkg⟩ : ∃ k, g.1 = k := ⟨_, rfl⟩
 obtain ⟨ln, hln⟩ : ∃ n, g.2.2.length = n := ⟨_, rfl⟩
 rw [hkg] at a0
 rw [hln] at a2
 have S0 := hide s0
 have A0 := hide a0
 have A1 := hide a1
 have A2 := hide a2
 have HBA := hide hba
 have HWA := hide hwa
 have HKG := hide hkg
 have HLN := hide hln
 rw [hkg, hln]
 rw [hkg, hln] at HWA
 clear s0 hz a0 a1 a2 hba hwa hkg hln
 go_enter Tryz.func77, Tryz.ntmps77
 go_wp2_with fail
 rw [← HWA.out]
 obtain ⟨gg, hgg⟩ : ∃ gg, gg = w.heap.size + 1 := ⟨_, rfl⟩
 rw [← hgg] at A0 A1 A2 ⊢
 clear HWA hgg
 go_loopw [10] (fun i wr => ∃ k : Nat, k ≤ st.length ∧ i = .int .i64 k ∧ Below wa.heap.size wa wr ∧ Hid ((!((st.drop k).any fun s => insideG g s.2) && pa) = q)) (fun i _ => st.length - (intOf i).toNat)
 case atStart => exact ⟨0, Nat.zero_le _, rfl, Below.refl _ _, H0⟩
 case round =>
  obtain ⟨k, hk, rfl, hb, H⟩ := hrel
  have hbw := HBA.out.trans (hb.mono HBA.out.size)
  have HBW := hide hbw
  by_cases hlt : k < st.length
  ·obtain ⟨b2, o2, P1, c1, P2, c2, hB, hbS, d0, d1, hs1, hs2⟩ := K2.out.subAt hlt
   subst hB
   have hbS' : b2 < w.heap.size := hbS
   have e0 := cell_grows hb _ _ A0.out
   have e1 := cell_grows hb _ _ A1.out
   have e2 := cell_grows hb _ _ A2.out
   have f0 := (hbw.cell (p := ⟨b2, o2 + k * 2, none⟩) hbS').trans d0
   have f1 := (hbw.cell (p := ⟨b2, o2 + k * 2 + 1, none⟩) hbS').trans d1
   obtain ⟨wy, hwy⟩ : ∃ wy, wy = wr.alloc (.cells #[.slice P1 st[k].1.length c1, .slice P2 st[k].2.length c2] 52) := ⟨_, rfl⟩
   have hby : Below wr.heap.size wr wy := by rw [hwy]; exact (Below.refl _ _).alloc (Nat.le_refl _) _
   have y0 : wy.cell? ⟨wr.heap.size, 0, none⟩ = some (.slice P1 st[k].1.length c1) := by rw [hwy, World.cell?_alloc_new]; rfl
   have y1 : wy.cell? ⟨wr.heap.size, 1, none⟩ = some (.slice P2 st[k].2.length c2) := by rw [hwy, World.cell?_alloc_new]; rfl
   have x0 := cell_grows hby _ _ e0
   have x1 := cell_grows hby _ _ e1
   have x2 := cell_grows hby _ _ e2
   have hbwy := hbw.trans (hby.mono hbw.size)
   have HBY := hide (hb.trans (hby.mono hb.size))
   have SP1 := hide ((Sl.ok RGen.ok).below hs1 hbwy)
   have SP2 := hide ((Sl.ok RGen.ok).below hs2 hbwy)
   have SN := hide ((Sl.ok RRdn.ok).below K1.out hbwy)
   have HM := hide (HMX.out.below hbwy)
   obtain ⟨hsm1, hsm2⟩ := HL.out st[k] (List.getElem_mem hlt)
   obtain ⟨p2, hp2⟩ : ∃ p, insideG g st[k].2 = p := ⟨_, rfl⟩
   have HX := hide (show (!(p2 || (st.drop (k + 1)).any fun s => insideG g s.2) && pa) = q by rw [← H.out, List.drop_eq_getElem_cons hlt, List.any_cons, hp2])
   have HP2 := hide hp2
   have HSM := hide hsm2
   obtain ⟨sk, hsk⟩ : ∃ sk, st[k].2 = sk := ⟨_, rfl⟩
   obtain ⟨l2, hl2⟩ : ∃ l2, st[k].1.length = l2 := ⟨_, rfl⟩
   rw [hsk] at f1 y1 SP2 HP2 HSM hwy
   rw [hl2] at f0 y0 hwy
   have IN := hide (fun W hm hn hs => HKG.out ▸ HLN.out ▸ inside_any g t A c sk P2 c2 HT.out HG.out HSM.out p2 HP2.out W hm hn hs)
   clear hb hbw d0 d1 hs1 hs2 hsm1 hsm2 hp2 hsk hl2 hby hbwy e0 e1 e2
   go_upto_region 4 with (fail)
   rw [← hwy]
   clear hwy f0 f1
   go_wp2_with fail
   refine (IN.out _ HM.out (HLN.out ▸ SN.out) SP2.out).mono ?_
   rintro e w6 ⟨rfl, hb6⟩
   have HB6 := hide (HBY.out.trans (hb6.mono HBY.out.size))
   have HW6 := hide (HBA.out.trans (HB6.out.mono HBA.out.size))
   clear hb6 x0 x1 x2 y0 y1
   cases p2
   ·have HY := hide (show (!((st.drop (k + 1)).any fun s => insideG g s.2) && pa) = q by rw [← HX.out]; rfl)
    go_wp2_with fail
    go_roundw
    case rel => exact ⟨k + 1, by omega, by go_num, HB6.out, HY⟩
    case measure => simp [intOf]; omega
   ·have HY := hide (show false = q by rw [← HX.out]; rfl)
    go_wp2_with fail
    go_ret
    exact ⟨ret_bool HY.out, HW6.out⟩
  ·have HY := hide (show pa = q by rw [← H.out, List.drop_of_length_le (by omega)]; rfl)
   have e0 := cell_grows hb _ _ A0.out
   have e1 := cell_grows hb _ _ A1.out
   have e2 := cell_grows hb _ _ A2.out
   have e3 := cell_grows hb _ _ S0.out
   have SN := hide ((Sl.ok RRdn.ok).below K1.out hbw)
   have SS := hide ((Sl.ok RSub.ok).below K2.out hbw)
   have HM := hide (HMX.out.below hbw)
   have AL := hide (fun W hm hn hs => HKG.out ▸ HLN.out ▸ allows_any g t A c st B d HT.out HG.out HL.out pa HPA.out W hm hn hs)
   clear hb hbw
   go_wp2_with fail
   refine (AL.out _ HM.out (HLN.out ▸ SN.out) SS.out).mono ?_
   rintro e w6 ⟨rfl, hb6⟩
   go_wp2_with fail
   go_ret
   exact ⟨ret_bool HY.out, HBW.out.trans (hb6.mono HBW.out.size)⟩
end Go.Proofs.YtahamclodagihaaGreatDoor
namespace Go.Proofs.YtahamclodagihaaGreatDoor
open Go.RowKit
def bMail : List (List UInt8) := [[97, 110, 110, 64, 101, 120, 97, 109, 112, 108, 101, 46, 111, 114, 103], [101, 120, 97, 109, 112, 108, 101, 46, 111, 114, 103], [46, 101, 120, 97, 109, 112, 108, 101, 46, 111, 114, 103], [69, 88, 65, 77, 80, 76, 69, 46, 111, 114, 103], [46, 111, 114, 103], [111, 114, 103], [109, 97, 105, 108, 46, 101, 120, 97, 109, 112, 108, 101, 46, 111, 114, 103]]
def bDns : List (List UInt8) := [[101, 120, 97, 109, 112, 108, 101, 46, 111, 114, 103], [119, 119, 119, 46, 101, 120, 97, 109, 112, 108, 101, 46, 111, 114, 103], [], [69, 120, 97, 109, 112, 108, 101, 46, 79, 82, 71], [111, 114, 103], [98], [97, 46, 98]]
def bAddr : List (List UInt8) := [[10, 0, 0, 0, 255, 0, 0, 0], [10, 1, 0, 0, 255, 255, 0, 0], [0, 0, 0, 0, 0, 0, 0, 0], [10, 1, 2, 3, 255, 255, 255, 255], [32, 1, 0, 0, 0, 0, 0, 0, 0, 0, 0, 0, 0, 0, 0, 0, 255, 255, 0, 0, 0, 0, 0, 0, 0, 0, 0, 0, 0, 0, 0, 0]]
def GoodBase (g : Gen) : Prop := (∃ t ∈ bMail, g = (1, t, [])) ∨ (∃ t ∈ bDns, g = (2, t, [])) ∨ (∃ t ∈ bAddr, g = (7, t, [])) ∨ ∃ n, GoodN n ∧ g = (4, [], n)
theorem nil_small : SmallN [] := fun r hr => by cases hr
theorem GoodBase.small {g : Gen} (h : GoodBase g) : SmallG g := by
 have k1 : ∀ t ∈ bMail, t.length ≤ 100000 := by decide
 have k2 : ∀ t ∈ bDns, t.length ≤ 100000 := by decide
 have k3 : ∀ t ∈ bAddr, t.length ≤ 100000 := by decide
 rcases h with ⟨t, ht, rfl⟩ | ⟨t, ht, rfl⟩ | ⟨t, ht, rfl⟩ | ⟨n, hn, rfl⟩
 ·exact ⟨k1 t ht, nil_small⟩
 ·exact ⟨k2 t ht, nil_small⟩
 ·exact ⟨k3 t ht, nil_small⟩
 ·exact ⟨by show ([] : List UInt8).length ≤ 100000; decide, hn.bnd.small (by omega)⟩
def GenPost (Q : Gen → Prop) (d : Nat) (w : World) (e : Ending) (w' : World) : Prop :=
 ∃ (g : Gen) (t : ByteArray) (A : Option Addr) (c : Nat), Q g ∧ t.data.toList = g.2.1 ∧ e = .returned (.agg #[.int .i64 g.1, .string t, .slice A g.2.2.length c]) ∧ Sl RRdn 1 w' (Btw w.heap.size w'.heap.size) g.2.2 [.slice A g.2.2.length c] ∧ DeckAt w' d ∧ Ex d w w'
theorem strtab_at {d : Nat} {w w1 : World} {C : Array Value} {t : TypeId} {tab : List (List UInt8)} (hex : Ex d (w.alloc (.cells C t)) w1) (hd : d < w.heap.size) (hC : C.toList = tab.flatMap strC) {v : Nat} (hv : v < tab.length) :
  ∃ x : ByteArray, x.data.toList ∈ tab ∧ w1.cell? ⟨w.heap.size, v, none⟩ = some (.string x) := by
 obtain ⟨cs, h1, h2⟩ := news_pu (f := strC) (size := 1) (fun _ => rfl) w No C t tab hC v _ (List.getElem?_eq_getElem hv)
 have hcs : cs = strC tab[v] := h1
 subst hcs
 refine ⟨⟨tab[v].toArray⟩, List.getElem_mem hv, ?_⟩
 have := h2 0 _ rfl
 rw [Addr.add_lit, Nat.zero_add, Nat.mul_one, Nat.add_zero] at this
 exact (hex.cell (p := ⟨w.heap.size, v, none⟩) (by simp) (by show w.heap.size ≠ d; omega)).trans this
def GB (g : Nat) (k : Int) (t : ByteArray) (v : Value) (W : World) : Prop := W.heap[g]? = some (.cells #[.int .i64 k, .string t, v] 62 (0, 0))
theorem GB.facts {g : Nat} {k : Int} {t : ByteArray} {v : Value} {W : World} (h : GB g k t v W) : W.cell? ⟨g, 0, none⟩ = some (.int .i64 k) ∧ W.cell? ⟨g, 1, none⟩ = some (.string t) ∧ W.cell? ⟨g, 2, none⟩ = some v ∧
  W.frozen? ⟨g, 0, none⟩ = false ∧ W.frozen? ⟨g, 1, none⟩ = false ∧ W.frozen? ⟨g, 2, none⟩ = false := by
 unfold GB at h
 simp [World.cell?, World.frozen?, h]
theorem GB.lt {g : Nat} {k : Int} {t : ByteArray} {v : Value} {W : World} (h : GB g k t v W) : g < W.heap.size := (Array.getElem?_eq_some_iff.1 h).1
theorem GB.ex {g d : Nat} {k : Int} {t : ByteArray} {v : Value} {W W' : World} (h : GB g k t v W) (hx : Ex d W W') (hd : g ≠ d) : GB g k t v W' := (hx.at_ h.lt hd).trans h
theorem GB.alloc {g : Nat} {k : Int} {t : ByteArray} {v : Value} {W : World} (h : GB g k t v W) (o : Obj) : GB g k t v (W.alloc o) := (Below.heap_alloc W o g h.lt).trans h
theorem GB.store {g : Nat} {k : Int} {t : ByteArray} {v : Value} {W : World} (h : GB g k t v W) (a : Int) (b : ByteArray) (c : Value) : GB g a b c (((W.setCell ⟨g, 0, none⟩ (.int .i64 a)).setCell ⟨g, 1, none⟩ (.string b)).setCell ⟨g, 2, none⟩ c) := by
 unfold GB at *
 simp [World.setCell, Array.getElem?_modify, h]
theorem sl_st3 {w1 W : World} {g B : Nat} {n : Name} {v a b c : Value} (h : Sl RRdn 1 W (Btw w1.heap.size W.heap.size) n [v]) (hg : g < w1.heap.size) (hB : B ≤ w1.heap.size) :
  Sl RRdn 1 (((W.setCell ⟨g, 0, none⟩ a).setCell ⟨g, 1, none⟩ b).setCell ⟨g, 2, none⟩ c) (Btw B (((W.setCell ⟨g, 0, none⟩ a).setCell ⟨g, 1, none⟩ b).setCell ⟨g, 2, none⟩ c).heap.size) n [v] :=
 (Sl.ok RRdn.ok).mono h (fun k hk => by
  have hne : k ≠ g := by have := hk.1; omega
  rw [Below.heap_setCell _ ⟨g, 2, none⟩ c k hne, Below.heap_setCell _ ⟨g, 1, none⟩ b k hne, Below.heap_setCell _ ⟨g, 0, none⟩ a k hne]) (fun k hk => ⟨by have := hk.1; omega, by have := hk.2; simp; omega⟩)
set_option maxRecDepth 100000 in
set_option maxHeartbeats 8000000 in
theorem Base_any (d : Nat) (w : World) (h : DeckAt w d) : Calls Tryz.prog 44 #[.pointer (some ⟨d, 0, none⟩)] w (GenPost GoodBase d w) := by
  have hd := h.lt
  have hwd : w.heap.size ≠ d := by omega
  have HDK0 := hide (fun o => h.alloc o)
  clear h
  go_enter Tryz.func44, Tryz.ntmps44
  go_wp2_with fail
  refine (Next_any d 4 (by omega) (by omega) _ (HDK0.out _)).mono ?_
  rintro e w1 ⟨v1, hv1, rfl, hdk1, hex1⟩
  have HGB := hide (GB.ex (g := w.heap.size) (k := 0) (t := ⟨#[]⟩) (v := .slice none 0 0) (heap_alloc_new w _) hex1 hwd)
  have HEX := hide (((Ex.refl d w).alloc _).trans hex1)
  have HDK := hide hdk1
  have hd1 : d < w1.heap.size := hdk1.lt
  have hgw1 : w.heap.size < w1.heap.size := HGB.out.lt
  clear hdk1 hex1
  match v1, hv1 with
  | 0, _ =>
    go_wp2_with fail
    refine (Next_any d 7 (by omega) (by omega) _ (HDK.out.alloc _)).mono ?_
    rintro e w2 ⟨v2, hv2, rfl, hdk2, hex2⟩
    obtain ⟨x, hxm, c0⟩ := strtab_at (tab := bMail) hex2 hd1 rfl (v := v2) hv2
    have HGB := hide ((HGB.out.alloc _).ex hex2 hwd)
    have HEX := hide ((HEX.out.alloc _).trans hex2)
    have HDK := hide hdk2
    have HXM := hide hxm
    obtain ⟨r0, r1, r2, f0, f1, f2⟩ := HGB.out.facts
    have hv0 : (0 : Int) ≤ (v2 : Int) := by omega
    have hvn : (v2 : Int) < 7 := by omega
    clear hdk2 hex2 hxm
    go_wp2_with fail
    have hst := HGB.out.store 1 x (.slice none 0 0)
    have hx3 := ((HEX.out.setNew (g := w.heap.size) (j := 0) (Nat.le_refl _) (.int .i64 1)).setNew (g := w.heap.size) (j := 1) (Nat.le_refl _) (.string x)).setNew (g := w.heap.size) (j := 2) (Nat.le_refl _) (.slice none 0 0)
    have hd3 := ((HDK.out.set_ (g := w.heap.size) (j := 0) hd (.int .i64 1)).set_ (g := w.heap.size) (j := 1) hd (.string x)).set_ (g := w.heap.size) (j := 2) hd (.slice none 0 0)
    have hsl3 : Sl RRdn 1 (((w2.setCell ⟨w.heap.size, 0, none⟩ (.int .i64 1)).setCell ⟨w.heap.size, 1, none⟩ (.string x)).setCell ⟨w.heap.size, 2, none⟩ (.slice none 0 0)) (Btw w.heap.size (((w2.setCell ⟨w.heap.size, 0, none⟩ (.int .i64 1)).setCell ⟨w.heap.size, 1, none⟩ (.string x)).setCell ⟨w.heap.size, 2, none⟩ (.slice none 0 0)).heap.size) [] [(.slice none 0 0)] := (Sl.nil _ _ _ _)
    obtain ⟨W3, hW3⟩ : ∃ W3, W3 = ((w2.setCell ⟨w.heap.size, 0, none⟩ (.int .i64 1)).setCell ⟨w.heap.size, 1, none⟩ (.string x)).setCell ⟨w.heap.size, 2, none⟩ (.slice none 0 0) := ⟨_, rfl⟩
    rw [← hW3] at hst hx3 hd3 hsl3 ⊢
    obtain ⟨q0, q1, q2, -⟩ := hst.facts
    exact bodyPost_ret (v := .agg #[.int .i64 1, .string x, (.slice none 0 0)]) (by simp [results, Tryz.results44, go_sem, q0, q1, q2]) rfl ⟨(1, x.data.toList, []), x, _, _, (.inl ⟨_, HXM.out, rfl⟩), rfl, rfl, hsl3, hd3, hx3⟩
  | 1, _ =>
    go_wp2_with fail
    refine (Next_any d 7 (by omega) (by omega) _ (HDK.out.alloc _)).mono ?_
    rintro e w2 ⟨v2, hv2, rfl, hdk2, hex2⟩
    obtain ⟨x, hxm, c0⟩ := strtab_at (tab := bDns) hex2 hd1 rfl (v := v2) hv2
    have HGB := hide ((HGB.out.alloc _).ex hex2 hwd)
    have HEX := hide ((HEX.out.alloc _).trans hex2)
    have HDK := hide hdk2
    have HXM := hide hxm
    obtain ⟨r0, r1, r2, f0, f1, f2⟩ := HGB.out.facts
    have hv0 : (0 : Int) ≤ (v2 : Int) := by omega
    have hvn : (v2 : Int) < 7 := by omega
    clear hdk2 hex2 hxm
    go_wp2_with fail
    have hst := HGB.out.store 2 x (.slice none 0 0)
    have hx3 := ((HEX.out.setNew (g := w.heap.size) (j := 0) (Nat.le_refl _) (.int .i64 2)).setNew (g := w.heap.size) (j := 1) (Nat.le_refl _) (.string x)).setNew (g := w.heap.size) (j := 2) (Nat.le_refl _) (.slice none 0 0)
    have hd3 := ((HDK.out.set_ (g := w.heap.size) (j := 0) hd (.int .i64 2)).set_ (g := w.heap.size) (j := 1) hd (.string x)).set_ (g := w.heap.size) (j := 2) hd (.slice none 0 0)
    have hsl3 : Sl RRdn 1 (((w2.setCell ⟨w.heap.size, 0, none⟩ (.int .i64 2)).setCell ⟨w.heap.size, 1, none⟩ (.string x)).setCell ⟨w.heap.size, 2, none⟩ (.slice none 0 0)) (Btw w.heap.size (((w2.setCell ⟨w.heap.size, 0, none⟩ (.int .i64 2)).setCell ⟨w.heap.size, 1, none⟩ (.string x)).setCell ⟨w.heap.size, 2, none⟩ (.slice none 0 0)).heap.size) [] [(.slice none 0 0)] := (Sl.nil _ _ _ _)
    obtain ⟨W3, hW3⟩ : ∃ W3, W3 = ((w2.setCell ⟨w.heap.size, 0, none⟩ (.int .i64 2)).setCell ⟨w.heap.size, 1, none⟩ (.string x)).setCell ⟨w.heap.size, 2, none⟩ (.slice none 0 0) := ⟨_, rfl⟩
    rw [← hW3] at hst hx3 hd3 hsl3 ⊢
    obtain ⟨q0, q1, q2, -⟩ := hst.facts
    exact bodyPost_ret (v := .agg #[.int .i64 2, .string x, (.slice none 0 0)]) (by simp [results, Tryz.results44, go_sem, q0, q1, q2]) rfl ⟨(2, x.data.toList, []), x, _, _, (.inr (.inl ⟨_, HXM.out, rfl⟩)), rfl, rfl, hsl3, hd3, hx3⟩
  | 2, _ =>
    go_wp2_with fail
    refine (Next_any d 5 (by omega) (by omega) _ (HDK.out.alloc _)).mono ?_
    rintro e w2 ⟨v2, hv2, rfl, hdk2, hex2⟩
    obtain ⟨x, hxm, c0⟩ := strtab_at (tab := bAddr) hex2 hd1 rfl (v := v2) hv2
    have HGB := hide ((HGB.out.alloc _).ex hex2 hwd)
    have HEX := hide ((HEX.out.alloc _).trans hex2)
    have HDK := hide hdk2
    have HXM := hide hxm
    obtain ⟨r0, r1, r2, f0, f1, f2⟩ := HGB.out.facts
    have hv0 : (0 : Int) ≤ (v2 : Int) := by omega
    have hvn : (v2 : Int) < 5 := by omega
    clear hdk2 hex2 hxm
    go_wp2_with fail
    have hst := HGB.out.store 7 x (.slice none 0 0)
    have hx3 := ((HEX.out.setNew (g := w.heap.size) (j := 0) (Nat.le_refl _) (.int .i64 7)).setNew (g := w.heap.size) (j := 1) (Nat.le_refl _) (.string x)).setNew (g := w.heap.size) (j := 2) (Nat.le_refl _) (.slice none 0 0)
    have hd3 := ((HDK.out.set_ (g := w.heap.size) (j := 0) hd (.int .i64 7)).set_ (g := w.heap.size) (j := 1) hd (.string x)).set_ (g := w.heap.size) (j := 2) hd (.slice none 0 0)
    have hsl3 : Sl RRdn 1 (((w2.setCell ⟨w.heap.size, 0, none⟩ (.int .i64 7)).setCell ⟨w.heap.size, 1, none⟩ (.string x)).setCell ⟨w.heap.size, 2, none⟩ (.slice none 0 0)) (Btw w.heap.size (((w2.setCell ⟨w.heap.size, 0, none⟩ (.int .i64 7)).setCell ⟨w.heap.size, 1, none⟩ (.string x)).setCell ⟨w.heap.size, 2, none⟩ (.slice none 0 0)).heap.size) [] [(.slice none 0 0)] := (Sl.nil _ _ _ _)
    obtain ⟨W3, hW3⟩ : ∃ W3, W3 = ((w2.setCell ⟨w.heap.size, 0, none⟩ (.int .i64 7)).setCell ⟨w.heap.size, 1, none⟩ (.string x)).setCell ⟨w.heap.size, 2, none⟩ (.slice none 0 0) := ⟨_, rfl⟩
    rw [← hW3] at hst hx3 hd3 hsl3 ⊢
    obtain ⟨q0, q1, q2, -⟩ := hst.facts
    exact bodyPost_ret (v := .agg #[.int .i64 7, .string x, (.slice none 0 0)]) (by simp [results, Tryz.results44, go_sem, q0, q1, q2]) rfl ⟨(7, x.data.toList, []), x, _, _, (.inr (.inr (.inl ⟨_, HXM.out, rfl⟩))), rfl, rfl, hsl3, hd3, hx3⟩
  | 3, _ =>
    go_wp2_with fail
    refine (Name_any d _ HDK.out).mono ?_
    rintro e w2 ⟨n, vn, hgn, rfl, hsl, hdk2, hex2⟩
    obtain ⟨A, c, hvn⟩ := hsl.shape
    subst hvn
    have HGB := hide (HGB.out.ex hex2 hwd)
    have hz := HEX.out.size
    have HEX := hide (HEX.out.trans hex2)
    have HDK := hide hdk2
    have HGN := hide hgn
    have HSL := hide hsl
    have hlt1 := HGB.out.lt
    obtain ⟨r0, r1, r2, f0, f1, f2⟩ := HGB.out.facts
    clear hdk2 hex2 hgn hsl
    have hgw := hgw1
    go_wp2_with fail
    have hst := HGB.out.store 4 ⟨#[]⟩ (.slice A n.length c)
    have hx3 := ((HEX.out.setNew (g := w.heap.size) (j := 0) (Nat.le_refl _) (.int .i64 4)).setNew (g := w.heap.size) (j := 1) (Nat.le_refl _) (.string ⟨#[]⟩)).setNew (g := w.heap.size) (j := 2) (Nat.le_refl _) (.slice A n.length c)
    have hd3 := ((HDK.out.set_ (g := w.heap.size) (j := 0) hd (.int .i64 4)).set_ (g := w.heap.size) (j := 1) hd (.string ⟨#[]⟩)).set_ (g := w.heap.size) (j := 2) hd (.slice A n.length c)
    have hsl3 : Sl RRdn 1 (((w2.setCell ⟨w.heap.size, 0, none⟩ (.int .i64 4)).setCell ⟨w.heap.size, 1, none⟩ (.string ⟨#[]⟩)).setCell ⟨w.heap.size, 2, none⟩ (.slice A n.length c)) (Btw w.heap.size (((w2.setCell ⟨w.heap.size, 0, none⟩ (.int .i64 4)).setCell ⟨w.heap.size, 1, none⟩ (.string ⟨#[]⟩)).setCell ⟨w.heap.size, 2, none⟩ (.slice A n.length c)).heap.size) n [(.slice A n.length c)] := (sl_st3 HSL.out hgw (by omega))
    obtain ⟨W3, hW3⟩ : ∃ W3, W3 = ((w2.setCell ⟨w.heap.size, 0, none⟩ (.int .i64 4)).setCell ⟨w.heap.size, 1, none⟩ (.string ⟨#[]⟩)).setCell ⟨w.heap.size, 2, none⟩ (.slice A n.length c) := ⟨_, rfl⟩
    rw [← hW3] at hst hx3 hd3 hsl3 ⊢
    obtain ⟨q0, q1, q2, -⟩ := hst.facts
    exact bodyPost_ret (v := .agg #[.int .i64 4, .string ⟨#[]⟩, (.slice A n.length c)]) (by simp [results, Tryz.results44, go_sem, q0, q1, q2]) rfl ⟨(4, [], n), ⟨#[]⟩, _, _, (.inr (.inr (.inr ⟨n, HGN.out, rfl⟩))), rfl, rfl, hsl3, hd3, hx3⟩
end Go.Proofs.YtahamclodagihaaGreatDoor
namespace Go.Proofs.YtahamclodagihaaGreatDoor
open Go.RowKit
def CpN (n : Name) : Prop := n.length ≤ 1000 ∧ ∀ r ∈ n, r.length ≤ 1000
theorem clone_step {wr w1 : World} {base : Nat} {S : Nat → Prop} {v : Value} {l : Name} {r : List Attr} {A1 : Option Addr} {c1 : Nat} (hown : Own RRdn 1 33 wr base S v l) (hS : ∀ j, S j → base ≤ j ∧ j < wr.heap.size) (hbase : base ≤ wr.heap.size)
    (hb : Below wr.heap.size wr w1) (h1 : Own RAttr 3 27 w1 wr.heap.size No (.slice A1 r.length c1) r) :
    ∃ S' : Nat → Prop, Own RRdn 1 33 (w1.alloc (.cells #[.slice A1 r.length c1] 33)) base S' v l ∧
      (∀ i z, [r][i]? = some z → ∃ cs, RRdn (w1.alloc (.cells #[.slice A1 r.length c1] 33)) S' z cs ∧ ∀ j u, cs[j]? = some u → (w1.alloc (.cells #[.slice A1 r.length c1] 33)).cell? ((⟨w1.heap.size, 0, none⟩ : Addr).add (i * 1 + j)) = some u) ∧
      ∀ j, S' j → base ≤ j ∧ j < (w1.alloc (.cells #[.slice A1 r.length c1] 33)).heap.size := by
  obtain ⟨S', hS'⟩ : ∃ S' : Nat → Prop, S' = fun j => S j ∨ (wr.heap.size ≤ j ∧ j < w1.heap.size) := ⟨_, rfl⟩
  have hz := hb.size
  have hS2 : ∀ j, S' j → base ≤ j ∧ j < w1.heap.size := fun j hj => by
    rw [hS'] at hj
    rcases hj with hj | hj
    · have := hS j hj; omega
    · omega
  have hnoS : ∀ g, v.ownBlock = some g → ¬ S' g := fun g hg hh => by
    rw [hS'] at hh
    have hlt := (hown.lt g hg).2
    rcases hh with hh | hh
    · obtain ⟨_, _, h2, _⟩ := hown
      exact h2 g hg hh
    · omega
  have hownO := ((hown.below RRdn.ok (fun j hj => (hS j hj).2) hb).more RRdn.ok (fun j hj => by rw [hS']; exact .inl hj) hnoS)
  have hownA := hownO.alloc RRdn.ok (fun j hj => (hS2 j hj).2) (.cells #[.slice A1 r.length c1] 33)
  have hnew : Sl RAttr 3 (w1.alloc (.cells #[.slice A1 r.length c1] 33)) S' r [.slice A1 r.length c1] := (Sl.ok RAttr.ok).mono (h1.sl RAttr.ok) (fun j hj => Below.heap_alloc _ _ j (by rcases hj with hj | hj; exact hj.elim; exact hj.2)) (fun j hj => by rw [hS']; rcases hj with hj | hj; exact hj.elim; exact .inr hj)
  exact ⟨S', hownA, news_one (R := RRdn) hnew, fun j hj => ⟨(hS2 j hj).1, by have := (hS2 j hj).2; simp; omega⟩⟩
theorem GB.below {g : Nat} {k : Int} {t : ByteArray} {v : Value} {W W' : World} (h : GB g k t v W) (hb : Below W.heap.size W W') : GB g k t v W' := (hb.block g h.lt).trans h
theorem GB.store2 {g : Nat} {k : Int} {t : ByteArray} {v : Value} {W : World} (h : GB g k t v W) (c : Value) : GB g k t c (W.setCell ⟨g, 2, none⟩ c) := by
 unfold GB at *
 simp [World.setCell, Array.getElem?_modify, h]
theorem GB.other {g g' j : Nat} {k : Int} {t : ByteArray} {v u : Value} {W : World} (h : GB g k t v W) (hne : g ≠ g') : GB g k t v (W.setCell ⟨g', j, none⟩ u) := (Below.heap_setCell W ⟨g', j, none⟩ u g hne).trans h
set_option maxRecDepth 100000 in
set_option maxHeartbeats 8000000 in
theorem cloneName_any (k : Int) (t : ByteArray) (n : Name) (A : Option Addr) (c : Nat) (hcp : CpN n) (w : World) (h1 : Sl RRdn 1 w (Lt w.heap.size) n [.slice A n.length c]) :
  Calls Tryz.prog 203 #[.agg #[.int .i64 k, .string t, .slice A n.length c]] w fun e w' => ∃ (A' : Option Addr) (c' : Nat), e = .returned (.agg #[.int .i64 k, .string t, .slice A' n.length c']) ∧ Sl RRdn 1 w' (Btw w.heap.size w'.heap.size) n [.slice A' n.length c'] ∧ Below w.heap.size w w' := by
 have hnl := hcp.1
 have HCP := hide hcp.2
 have K := hide h1
 obtain ⟨wa, hwa⟩ : ∃ wa, wa = (w.alloc (.cells #[.int .i64 k, .string t, .slice A n.length c] 62)).alloc (.cells #[.int .i64 0, .string ⟨#[]⟩, .slice none 0 0] 62) := ⟨_, rfl⟩
 have hg1 : GB w.heap.size k t (.slice A n.length c) wa := by
  unfold GB
  rw [hwa, Below.heap_alloc _ _ _ (by simp)]
  exact heap_alloc_new w _
 have hg2 : GB (w.heap.size + 1) 0 ⟨#[]⟩ (.slice none 0 0) wa := by
  unfold GB
  rw [hwa, show w.heap.size + 1 = (w.alloc (.cells #[.int .i64 k, .string t, .slice A n.length c] 62)).heap.size by simp]
  exact heap_alloc_new _ _
 have hba : Below w.heap.size w wa := by rw [hwa]; exact ((Below.refl _ _).alloc (Nat.le_refl _) _).alloc (by simp) _
 have hza : wa.heap.size = w.heap.size + 2 := by rw [hwa]; simp
 have G1 := hide hg1
 have G2 := hide hg2
 have HBA := hide hba
 have HWA := hide hwa
 obtain ⟨r0, r1, r2, f0, f1, f2⟩ := hg1.facts
 obtain ⟨base, hbase⟩ : ∃ base, base = wa.heap.size := ⟨_, rfl⟩
 obtain ⟨gg, hgg⟩ : ∃ gg, gg = w.heap.size + 1 := ⟨_, rfl⟩
 rw [← hgg] at G2
 have hwg : w.heap.size < gg := by omega
 have hgb : gg < base := by omega
 have hbw0 : w.heap.size ≤ base := by omega
 have HBASE := hide hbase
 have HGG := hide hgg
 clear hcp h1 hwa hg1 hg2 hba hza hbase hgg
 go_enter Tryz.func203, Tryz.ntmps203
 go_upto_region 1 with (fail)
 rw [← HWA.out]
 go_wp2_with fail
 rw [← HGG.out]
 clear r0 r1 r2 f0 f1 f2
 go_loopw [3, 10] (fun x i wr => ∃ (j : Nat) (v : Value) (S : Nat → Prop), j ≤ n.length ∧ v = x ∧ i = .int .i64 j ∧ Below wa.heap.size wa wr ∧ base ≤ wr.heap.size ∧ Own RRdn 1 33 wr base S v (n.take j) ∧ ∀ b, S b → base ≤ b ∧ b < wr.heap.size) (fun _ i _ => n.length - (intOf i).toNat)
 case atStart => exact ⟨0, _, No, Nat.zero_le _, rfl, rfl, Below.refl _ _, by rw [HBASE.out]; exact Nat.le_refl _, Own.nil _ _ _ _ _ _, fun b h => h.elim⟩
 case round =>
  obtain ⟨j, v, S, hj, rfl, rfl, hb, hgs, hown, hS⟩ := hrel
  have hbw := HBA.out.trans (hb.mono HBA.out.size)
  have HB := hide hb
  have HBW := hide hbw
  have HOWN := hide hown
  have HS := hide hS
  clear hb hown hS
  by_cases hlt : j < n.length
  ·obtain ⟨b2, o2, A2, c2, hA2, hbS, d0, hsl⟩ := K.out.rdnAt hlt
   subst hA2
   have hbS' : b2 < w.heap.size := hbS
   have hrl := HCP.out n[j] (List.getElem_mem hlt)
   have HT := hide (List.take_succ_eq_append_getElem hlt)
   obtain ⟨r, hr⟩ : ∃ r, n[j] = r := ⟨_, rfl⟩
   rw [hr] at d0 hsl hrl HT
   have e0 := (hbw.cell (p := ⟨b2, o2 + j, none⟩) hbS').trans d0
   have hsrc := (Sl.ok RAttr.ok).below hsl hbw
   have HSRC := hide hsrc
   have hlj : (n.take j).length ≤ 1000 := by rw [List.length_take]; omega
   clear hr d0 hsl hbw hsrc
   go_wp2_with (first
    | (at_builtin; refine wpList_copy RAttr.ok _ rfl (.const (.slice none 0 0)) (.tmp 15) 33 rfl wr.heap.size 27 (.agg #[.string ⟨#[]⟩, .int .i64 0, .string ⟨#[]⟩]) 40 Tryz.underlying33 info_att rfl (by decide) (Lt wr.heap.size) No (fun _ _ h => h) rfl A2 c2 r rfl HSRC.out (no_lt _) (by omega) (Nat.le_refl _) ?_; intro v1 w1 hown1 hb1 hat1; obtain ⟨A1, c1, hv1⟩ := (hown1.sl RAttr.ok).shape; subst hv1; obtain ⟨S', hc1, hc2, hc3⟩ := clone_step HOWN.out HS.out hgs hb1 hown1; have hz1 := hb1.size)
    | (at_builtin; refine wpList_app RRdn.ok _ rfl (.tmp 14) (.tmp 17) 22 rfl base 33 (.slice none 0 0) 24 Tryz.underlying22 info_rdn rfl (by decide) S' _ (n.take j) rfl hc1 ⟨_, 0, none⟩ 1 1 [r] rfl rfl hc2 (fun b hb => (hc3 b hb).2) (by simp; omega) (by simp [maxLen]; omega) (by simp; omega) ?_; intro v6 w6 hown6 hgr6 hb6 hat6; have hsz6 := hb6.size; simp at hsz6)
    | fail)
   have hsz7 : w1.heap.size + 1 ≤ w6.heap.size := by simpa using hsz6
   have hbf : Below wa.heap.size wa w6 := ((HB.out.trans (hb1.mono HB.out.size)).alloc (Nat.le_trans HB.out.size hz1) _).trans (by rw [← HBASE.out]; exact hb6)
   rw [← HT.out] at hown6
   go_roundw
   case rel => exact ⟨j + 1, _, S', by omega, rfl, by go_num, hbf, by omega, hown6, fun b hb => ⟨(hc3 b hb).1, by have := (hc3 b hb).2; simp at this; omega⟩⟩
   case measure => simp [intOf]; omega
  ·have htk : n.take j = n := List.take_of_length_le (by omega)
   have hown := HOWN.out
   rw [htk] at hown
   have hslB := (Sl.ok RRdn.ok).mono (hown.sl RRdn.ok) (fun _ _ => rfl) (S' := fun b => base ≤ b ∧ b < wr.heap.size) (fun b hb => by rcases hb with hb | hb; exact HS.out b hb; exact hb)
   obtain ⟨A9, c9, hv⟩ := hslB.shape
   subst hv
   have HSLB := hide hslB
   have HG1 := hide (G1.out.below HB.out)
   have HG2 := hide (G2.out.below HB.out)
   obtain ⟨r0, r1, r2, f0, f1, f2⟩ := HG1.out.facts
   clear htk hown hslB hbw
   go_upto_region 8 with (fail)
   obtain ⟨wx, hwx⟩ : ∃ wx, wx = wr.setCell ⟨w.heap.size, 2, none⟩ (.slice A9 n.length c9) := ⟨_, rfl⟩
   have HX1 := hide (hwx ▸ HG1.out.store2 (.slice A9 n.length c9))
   have HX2 := hide (show GB gg 0 ⟨#[]⟩ (.slice none 0 0) wx from hwx ▸ HG2.out.other (by omega))
   have HXB := hide (show Below w.heap.size w wx by rw [hwx]; exact HBW.out.setCell (p := ⟨w.heap.size, 2, none⟩) (Nat.le_refl _) _)
   have HXS := hide (show Sl RRdn 1 wx (Btw base wx.heap.size) n [.slice A9 n.length c9] from (Sl.ok RRdn.ok).mono HSLB.out (fun b hb => by rw [hwx]; exact Below.heap_setCell wr _ _ b (by have := hb.1; show b ≠ w.heap.size; omega)) (fun b hb => ⟨hb.1, by have := hb.2; rw [hwx]; simpa using this⟩))
   rw [← hwx]
   clear hwx r0 r1 r2 f0 f1 f2
   obtain ⟨r0, r1, r2, -⟩ := HX1.out.facts
   obtain ⟨s0, s1, s2, f0, f1, f2⟩ := HX2.out.facts
   go_wp2_with fail
   have hst := HX2.out.store k t (.slice A9 n.length c9)
   have hbz := ((HXB.out.setCell (p := ⟨gg, 0, none⟩) (show w.heap.size ≤ gg by omega) (.int .i64 k)).setCell (p := ⟨gg, 1, none⟩) (show w.heap.size ≤ gg by omega) (.string t)).setCell (p := ⟨gg, 2, none⟩) (show w.heap.size ≤ gg by omega) (.slice A9 n.length c9)
   have hsl3 : Sl RRdn 1 (((wx.setCell ⟨gg, 0, none⟩ (.int .i64 k)).setCell ⟨gg, 1, none⟩ (.string t)).setCell ⟨gg, 2, none⟩ (.slice A9 n.length c9)) (Btw w.heap.size (((wx.setCell ⟨gg, 0, none⟩ (.int .i64 k)).setCell ⟨gg, 1, none⟩ (.string t)).setCell ⟨gg, 2, none⟩ (.slice A9 n.length c9)).heap.size) n [.slice A9 n.length c9] := by
    have h9 := HXS.out
    rw [HBASE.out] at h9
    exact sl_st3 (w1 := wa) h9 (by rw [← HBASE.out]; exact hgb) (by rw [← HBASE.out]; exact hbw0)
   obtain ⟨W3, hW3⟩ : ∃ W3, W3 = ((wx.setCell ⟨gg, 0, none⟩ (.int .i64 k)).setCell ⟨gg, 1, none⟩ (.string t)).setCell ⟨gg, 2, none⟩ (.slice A9 n.length c9) := ⟨_, rfl⟩
   rw [← hW3] at hst hbz hsl3 ⊢
   obtain ⟨q0, q1, q2, -⟩ := hst.facts
   exact bodyPost_ret (v := .agg #[.int .i64 k, .string t, .slice A9 n.length c9]) (by simp [results, Tryz.results203, go_sem, q0, q1, q2]) rfl ⟨A9, c9, rfl, hsl3, hbz⟩
end Go.Proofs.YtahamclodagihaaGreatDoor
namespace Go.Proofs.YtahamclodagihaaGreatDoor
open Go.RowKit
theorem info_gen : (Tryz.prog.info? 62).map (fun i => (i.zero, i.size, i.bytes)) = some (some (.agg #[.int .i64 0, .string ⟨#[]⟩, .slice none 0 0]), 3, 48) := by kernel_rfl
theorem gen_step {wr W w1 : World} {base : Nat} {S : Nat → Prop} {v : Value} {l : List Gen} {k : Int} {t : ByteArray} {n : Name} {A1 : Option Addr} {c1 : Nat} (hown : Own RGen 3 62 wr base S v l) (hS : ∀ j, S j → base ≤ j ∧ j < wr.heap.size) (hbase : base ≤ wr.heap.size)
    (hbW : Below wr.heap.size wr W) (hb : Below W.heap.size W w1) (h1 : Sl RRdn 1 w1 (Btw W.heap.size w1.heap.size) n [.slice A1 n.length c1]) :
    ∃ S' : Nat → Prop, Own RGen 3 62 (w1.alloc (.cells #[.int .i64 k, .string t, .slice A1 n.length c1] 62)) base S' v l ∧
      (∀ i z, [((k, t.data.toList, n) : Gen)][i]? = some z → ∃ cs, RGen (w1.alloc (.cells #[.int .i64 k, .string t, .slice A1 n.length c1] 62)) S' z cs ∧ ∀ j u, cs[j]? = some u → (w1.alloc (.cells #[.int .i64 k, .string t, .slice A1 n.length c1] 62)).cell? ((⟨w1.heap.size, 0, none⟩ : Addr).add (i * 3 + j)) = some u) ∧
      ∀ j, S' j → base ≤ j ∧ j < (w1.alloc (.cells #[.int .i64 k, .string t, .slice A1 n.length c1] 62)).heap.size := by
  obtain ⟨S', hS'⟩ : ∃ S' : Nat → Prop, S' = fun j => S j ∨ (W.heap.size ≤ j ∧ j < w1.heap.size) := ⟨_, rfl⟩
  have hz := hb.size
  have hzW := hbW.size
  have hS2 : ∀ j, S' j → base ≤ j ∧ j < w1.heap.size := fun j hj => by
    rw [hS'] at hj
    rcases hj with hj | hj
    · have := hS j hj; omega
    · omega
  have hnoS : ∀ g, v.ownBlock = some g → ¬ S' g := fun g hg hh => by
    rw [hS'] at hh
    have hlt := (hown.lt g hg).2
    rcases hh with hh | hh
    · obtain ⟨_, _, h2, _⟩ := hown
      exact h2 g hg hh
    · omega
  have hbb : Below wr.heap.size wr w1 := hbW.trans (hb.mono hbW.size)
  have hownO := ((hown.below RGen.ok (fun j hj => (hS j hj).2) hbb).more RGen.ok (fun j hj => by rw [hS']; exact .inl hj) hnoS)
  have hownA := hownO.alloc RGen.ok (fun j hj => (hS2 j hj).2) (.cells #[.int .i64 k, .string t, .slice A1 n.length c1] 62)
  refine ⟨S', hownA, fun i z hz => ?_, fun j hj => ⟨(hS2 j hj).1, by have := (hS2 j hj).2; simp; omega⟩⟩
  match i, hz with
  | 0, hz =>
    simp at hz; subst hz
    refine ⟨[.int .i64 k, .string t, .slice A1 n.length c1], ⟨_, rfl, (Sl.ok RRdn.ok).mono h1 (fun j hj => Below.heap_alloc _ _ j hj.2) (fun j hj => by rw [hS']; exact .inr hj)⟩, fun j u hu => ?_⟩
    rw [Addr.add_lit, Nat.zero_mul, Nat.zero_add, Nat.zero_add, World.cell?_alloc_new]
    simpa using hu
set_option maxRecDepth 100000 in
set_option maxHeartbeats 8000000 in
theorem eachGen_any (l : List Gen) (B : Option Addr) (d : Nat) (hln : l.length ≤ 1000) (hcp : ∀ g ∈ l, CpN g.2.2) (w : World) (h2 : Sl RGen 3 w (Lt w.heap.size) l [.slice B l.length d]) :
  Calls Tryz.prog 202 #[.slice B l.length d, .func (.func 203) #[] #[]] w fun e w' => ∃ (B' : Option Addr) (d' : Nat), e = .returned (.slice B' l.length d') ∧ Sl RGen 3 w' (Btw w.heap.size w'.heap.size) l [.slice B' l.length d'] ∧ Below w.heap.size w w' := by
 have hcf : ∀ (x : Value) (W : World), (callFunc 203 #[x]).run Tryz.prog W = .ok (.enter 203 #[x]) W := fun x W => by kernel_rfl
 have HCP := hide hcp
 have K := hide h2
 obtain ⟨base, hbase⟩ : ∃ base, base = w.heap.size := ⟨_, rfl⟩
 have HBASE := hide hbase
 clear hcp h2 hbase
 go_enter Tryz.func202, Tryz.ntmps202
 go_wp2_with fail
 go_loopw [5, 10] (fun x i wr => ∃ (j : Nat) (v : Value) (S : Nat → Prop), j ≤ l.length ∧ v = x ∧ i = .int .i64 j ∧ Below w.heap.size w wr ∧ base ≤ wr.heap.size ∧ Own RGen 3 62 wr base S v (l.take j) ∧ ∀ b, S b → base ≤ b ∧ b < wr.heap.size) (fun _ i _ => l.length - (intOf i).toNat)
 case atStart => exact ⟨0, _, No, Nat.zero_le _, rfl, rfl, Below.refl _ _, by rw [HBASE.out]; exact Nat.le_refl _, Own.nil _ _ _ _ _ _, fun b h => h.elim⟩
 case round =>
  obtain ⟨j, v, S, hj, rfl, rfl, hb, hgs, hown, hS⟩ := hrel
  have HB := hide hb
  have HOWN := hide hown
  have HS := hide hS
  clear hown hS
  by_cases hlt : j < l.length
  ·obtain ⟨b2, o2, t2, A2', c2, hB, hbS, ht2, d0, d1, d2, hsl⟩ := K.out.genAt hlt
   subst hB
   have hbS' : b2 < w.heap.size := hbS
   have HC := hide (HCP.out l[j] (List.getElem_mem hlt))
   have HT := hide (List.take_succ_eq_append_getElem hlt)
   obtain ⟨kb, hkb⟩ : ∃ kb, l[j].1 = kb := ⟨_, rfl⟩
   obtain ⟨nb, hnb⟩ : ∃ nb, l[j].2.2 = nb := ⟨_, rfl⟩
   have hbe : l[j] = (kb, t2.data.toList, nb) := by rw [← hkb, ← hnb, ht2]
   rw [hkb] at d0
   rw [hnb] at d2 hsl HC
   rw [hbe] at HT
   have f0 := (hb.cell (p := ⟨b2, o2 + j * 3, none⟩) hbS').trans d0
   have f1 := (hb.cell (p := ⟨b2, o2 + j * 3 + 1, none⟩) hbS').trans d1
   have f2 := (hb.cell (p := ⟨b2, o2 + j * 3 + 2, none⟩) hbS').trans d2
   have hbc : Below wr.heap.size wr (wr.alloc (.cells #[.int .i64 kb, .string t2, .slice A2' nb.length c2] 62)) := (Below.refl _ _).alloc (Nat.le_refl _) _
   have SN := hide ((Sl.ok RRdn.ok).below hsl (hb.trans (hbc.mono hb.size)))
   have HBC := hide hbc
   have hlj : (l.take j).length ≤ 1000 := by rw [List.length_take]; omega
   clear hb d0 d1 d2 hsl hkb hnb hbe ht2 hbc
   go_wp2_with fail
   refine (cloneName_any kb t2 nb A2' c2 HC.out _ SN.out).mono ?_
   rintro e w5 ⟨A5, c5, rfl, hsl5, hb5⟩
   obtain ⟨S', hc1, hc2, hc3⟩ := gen_step (k := kb) (t := t2) HOWN.out HS.out hgs HBC.out hb5 hsl5
   have hz5 := hb5.size
   simp only [World.size_alloc] at hz5
   have HB5 := hide (HB.out.trans ((HBC.out.trans (hb5.mono HBC.out.size)).mono HB.out.size))
   clear hsl5 hb5 f0 f1 f2
   go_wp2_with (first
    | (at_builtin; refine wpList_app RGen.ok _ rfl (.tmp 14) (.tmp 18) 50 rfl base 62 (.agg #[.int .i64 0, .string ⟨#[]⟩, .slice none 0 0]) 48 Tryz.underlying50 info_gen rfl (by decide) S' _ (l.take j) rfl hc1 ⟨_, 0, none⟩ 1 1 [(kb, t2.data.toList, nb)] rfl rfl hc2 (fun b hb => (hc3 b hb).2) (by simp; omega) (by simp [maxLen]; omega) (by simp; omega) ?_; intro v6 w6 hown6 hgr6 hb6 hat6; have hsz6 := hb6.size; simp at hsz6)
    | fail)
   have hsz7 : w5.heap.size + 1 ≤ w6.heap.size := by simpa using hsz6
   have hbf : Below w.heap.size w w6 := (HB5.out.alloc HB5.out.size _).trans (by rw [← HBASE.out]; exact hb6)
   rw [← HT.out] at hown6
   go_roundw
   case rel => exact ⟨j + 1, _, S', by omega, rfl, by go_num, hbf, by omega, hown6, fun b hb => ⟨(hc3 b hb).1, by have := (hc3 b hb).2; simp at this; omega⟩⟩
   case measure => simp [intOf]; omega
  ·have htk : l.take j = l := List.take_of_length_le (by omega)
   have hown := HOWN.out
   rw [htk] at hown
   have hslB := (Sl.ok RGen.ok).mono (hown.sl RGen.ok) (fun _ _ => rfl) (S' := fun b => base ≤ b ∧ b < wr.heap.size) (fun b hb => by rcases hb with hb | hb; exact HS.out b hb; exact hb)
   obtain ⟨A9, c9, hv⟩ := hslB.shape
   subst hv
   have HSLB := hide hslB
   clear htk hown hslB hb
   go_wp2_with fail
   go_ret
   exact ⟨A9, c9, rfl, (Sl.ok RGen.ok).mono HSLB.out (fun _ _ => rfl) (fun b hb => ⟨by rw [← HBASE.out]; exact hb.1, hb.2⟩), HB.out⟩
end Go.Proofs.YtahamclodagihaaGreatDoor
