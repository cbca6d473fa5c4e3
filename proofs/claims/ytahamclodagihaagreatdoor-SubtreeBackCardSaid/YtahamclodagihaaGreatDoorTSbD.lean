/- Encode of name constraints, both sides. -/
import Derived.Test.YtahamclodagihaaGreatDoorTSbC
import Derived.Test.YtahamclodagihaaGreatDoorTSbE
namespace Go.Proofs.YtahamclodagihaaGreatDoor
open Go.RowKit
theorem partO_len {t : Nat} {l : List Gen} {b : List UInt8} (h : partO t l = some b) : b.length ≤ 131077 := by
 unfold partO at h
 split at h
 ·cases h; simp
 ·obtain ⟨h1, rfl⟩ := wrapO_some h
  rw [wrapW_len]
  have := lenB_le (l.flatMap treeB).length
  omega
theorem chkS_zero {p x : List Gen} (h : chkS (p, x) = 0) : p.length ≤ 16 ∧ x.length ≤ 16 ∧ ∀ g ∈ p ++ x, chkG g true = 0 := by
 unfold chkS at h
 split at h
 ·cases h
 ·split at h
  ·cases h
  ·rename_i h2
   simp only [not_or] at h2
   exact ⟨by omega, by omega, (chkGs_iff _ _).1 h⟩
theorem wrapLim (P X : ByteArray) (hp : P.size ≤ 131077) (hx : X.size ≤ 131077) (o : Option (List UInt8)) (ho : wrapO 48 (P.data.toList ++ X.data.toList) = o) (W : World) :
  Calls Tryz.prog 55 #[.int .i64 48, .slice (some ⟨W.heap.size, 0, none⟩) 2 2] (W.alloc (.cells #[.string P, .string X] 9)) fun e9 w' => e9 = .returned (limV 6 o) ∧ Below W.heap.size W w' := by
 have hr : wrapR (wrapF 48 [P.data.toList, X.data.toList]) = limV 6 o := by
  rw [← ho, wrapF, wrapO]
  simp only [List.flatten_cons, List.flatten_nil, List.append_nil]
  split <;> rfl
 have := wrap_two 48 (by omega) (by omega) P X (by omega) (by omega) _ rfl W
 rw [hr] at this
 exact this
set_option maxRecDepth 100000 in
set_option maxHeartbeats 8000000 in
theorem SEncode_any (p x : List Gen) (A B : Option Addr) (c d : Nat) (hs : SmallGs (p ++ x)) (w : World) (hmx : Mx w)
    (h1 : Sl RGen 3 w (Lt w.heap.size) p [.slice A p.length c]) (h2 : Sl RGen 3 w (Lt w.heap.size) x [.slice B x.length d]) :
    Calls Tryz.prog 34 #[.agg #[.slice A p.length c, .slice B x.length d]] w fun e w' => e = .returned (wrapR (encS (p, x))) ∧ Below w.heap.size w w' := by
  obtain ⟨-, hnc, hcm⟩ := h1.len_
  obtain ⟨-, hnc2, hcm2⟩ := h2.len_
  unfold maxLen at hcm hcm2
  have HMX := hide hmx
  have HSS := hide hs
  obtain ⟨o, ho⟩ : ∃ o, encS (p, x) = o := ⟨_, rfl⟩
  rw [ho]
  have HO := hide ho
  obtain ⟨wa, hwa⟩ : ∃ W, W = w.alloc (.cells #[.slice A p.length c, .slice B x.length d] 52) := ⟨_, rfl⟩
  obtain ⟨c0, c1⟩ := two_cells hwa
  have hba : Below w.heap.size w wa := by rw [hwa]; exact (Below.refl _ _).alloc (Nat.le_refl _) _
  have K1 := hide ((Sl.ok RGen.ok).below h1 hba)
  have K2 := hide ((Sl.ok RGen.ok).below h2 hba)
  have HBA := hide hba
  obtain ⟨q, hq⟩ : ∃ q, chkS (p, x) = q := ⟨_, rfl⟩
  have HQ := hide hq
  clear h1 h2 hs hmx hq ho hba
  go_enter Tryz.func34, Tryz.ntmps34
  go_upto_region 1 with fail
  rw [← hwa]
  clear hwa
  go_wp2_with fail
  refine (SCheck_any p x A B c d (fun g hg => ⟨Nat.le_trans (HSS.out g hg).1 (by omega), (HSS.out g hg).2⟩) q HQ.out wa (HMX.out.below HBA.out) K1.out K2.out).mono ?_
  rintro e w1 ⟨rfl, hb1⟩
  have c0 := cell_grows hb1 _ _ c0
  have c1 := cell_grows hb1 _ _ c1
  have HB1 := hide (HBA.out.trans (hb1.mono HBA.out.size))
  have K1 := hide ((Sl.ok RGen.ok).below K1.out hb1)
  have K2 := hide ((Sl.ok RGen.ok).below K2.out hb1)
  clear hb1
  by_cases hq0 : q = 0
  · subst hq0
    obtain ⟨hp16, hx16, hck⟩ := chkS_zero HQ.out
    have HE0 := hide (show o = limR (encSO (partO 160 p) (partO 161 x)) by rw [← HO.out, encS, if_pos HQ.out])
    have HP := hide (encPart_any 160 (by decide) (by decide) p A c (fun g hg => hck g (by simp [hg])) (fun g hg => HSS.out g (by simp [hg])) hp16 w1 (HMX.out.below HB1.out) K1.out)
    have HX := hide (fun W hb => encPart_any 161 (by decide) (by decide) x B d (fun g hg => hck g (by simp [hg])) (fun g hg => HSS.out g (by simp [hg])) hx16 W (HMX.out.below (HB1.out.trans (hb.mono HB1.out.size))) ((Sl.ok RGen.ok).below K2.out hb))
    obtain ⟨o1, ho1⟩ : ∃ o, partO 160 p = o := ⟨_, rfl⟩
    obtain ⟨o2, ho2⟩ : ∃ o, partO 161 x = o := ⟨_, rfl⟩
    rw [ho1, ho2] at HE0
    rw [ho1] at HP
    rw [ho2] at HX
    have HO1 := hide ho1
    have HO2 := hide ho2
    clear hck ho1 ho2
    go_wp2_with fail
    refine HP.out.mono ?_
    rintro e w2 ⟨rfl, hb2⟩
    have c1 := cell_grows hb2 _ _ c1
    have HB2 := hide (HB1.out.trans (hb2.mono HB1.out.size))
    have HBR := hide hb2
    clear hb2 c0
    cases o1 with
    | none =>
      rw [limV]
      have HE := hide (show o = ([], 2) from HE0.out)
      have HN := hide (show wrapR o = .tuple #[.string ⟨#[]⟩, .int .i64 2] by rw [HE.out]; rfl)
      go_wp2_with fail
      go_ret2
      exact ⟨by rw [HN.out]; rfl, HB2.out⟩
    | some a =>
      obtain ⟨P, hP⟩ : ∃ P : ByteArray, P = ⟨a.toArray⟩ := ⟨_, rfl⟩
      have hPs : P.size ≤ 131077 := by rw [hP, ba_mk]; exact partO_len HO1.out
      have hPd : P.data.toList = a := by rw [hP]
      rw [limV, ← hP]
      clear hP
      go_wp2_with fail
      refine (HX.out w2 HBR.out).mono ?_
      rintro e w3 ⟨rfl, hb3⟩
      have HB3 := hide (HB2.out.trans (hb3.mono HB2.out.size))
      clear hb3 c1
      cases o2 with
      | none =>
        rw [limV]
        have HE := hide (show o = ([], 2) from HE0.out)
        clear hPd
        have HN := hide (show wrapR o = .tuple #[.string ⟨#[]⟩, .int .i64 2] by rw [HE.out]; rfl)
        go_wp2_with fail
        go_ret2
        exact ⟨by rw [HN.out]; rfl, HB3.out⟩
      | some b =>
        obtain ⟨X, hX⟩ : ∃ P : ByteArray, P = ⟨b.toArray⟩ := ⟨_, rfl⟩
        have hXs : X.size ≤ 131077 := by rw [hX, ba_mk]; exact partO_len HO2.out
        have hXd : X.data.toList = b := by rw [hX]
        obtain ⟨o3, ho3⟩ : ∃ o, wrapO 48 (P.data.toList ++ X.data.toList) = o := ⟨_, rfl⟩
        have HE1 := hide (show o = limR o3 by rw [HE0.out, encSO, ← hPd, ← hXd, ho3])
        rw [limV, ← hX]
        have HW := hide (fun W => wrapLim P X hPs hXs o3 ho3 W)
        clear hX ho3 hPd hXd
        go_wp2_with fail
        refine (HW.out _).mono ?_
        rintro e w4 ⟨rfl, hb4⟩
        have HB4 := hide (HB3.out.trans (hb4.mono HB3.out.size))
        clear hb4
        cases o3 with
        | none =>
          rw [limV]
          have HE := hide (show o = ([], 2) from HE1.out)
          have HN := hide (show wrapR o = .tuple #[.string ⟨#[]⟩, .int .i64 2] by rw [HE.out]; rfl)
          go_wp2_with fail
          go_ret2
          exact ⟨by rw [HN.out]; rfl, HB4.out⟩
        | some e9 =>
          rw [limV]
          have HN := hide (show wrapR o = .tuple #[.string ⟨e9.toArray⟩, .int .i64 0] by rw [HE1.out]; rfl)
          go_wp2_with fail
          go_ret2
          exact ⟨by rw [HN.out]; rfl, HB4.out⟩
  · have ht : (q != 0) = true := by simp [hq0]
    have HN := hide (show wrapR o = .tuple #[.string ⟨#[]⟩, .int .i64 q] by rw [← HO.out, encS, if_neg (by rw [HQ.out]; exact hq0), HQ.out]; rfl)
    clear hq0
    go_wp2_with fail
    go_ret2
    exact ⟨by rw [HN.out]; rfl, HB1.out⟩
end Go.Proofs.YtahamclodagihaaGreatDoor
