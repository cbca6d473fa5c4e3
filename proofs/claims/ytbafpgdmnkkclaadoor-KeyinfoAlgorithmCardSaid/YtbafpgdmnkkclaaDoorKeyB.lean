/- The reference's CheckAlgorithm. -/
import Derived.Test.YtbafpgdmnkkclaaDoorKeyA
namespace Go.Proofs.YtbafpgdmnkkclaaDoor
open Go.RowKit

theorem chkAlg_open (t : Int) (c : List UInt8) : chkAlg t c = algG (openF t 48 c) := by
  by_cases h : t = 48
  · rw [h, chkAlg_eq, openF, if_neg (by simp)]
  · rw [chkAlg, if_pos h, openF, if_pos h]; rfl
theorem open_err0 {t u : Int} {c : List UInt8} : openF t u c ≠ .error 0 := fun h => by
  unfold openF at h
  split at h
  · cases h
  · exact list_err0 _ _ (Nat.le_refl _) h


set_option maxRecDepth 100000 in
set_option maxHeartbeats 8000000 in
theorem rCheckAlgorithm_any (t : Int) (c raw : ByteArray) (hc : c.size ≤ 131072) (w : World) :
    Calls Tryd.prog 19 #[.agg #[.int .i64 t, .string c, .string raw]] w fun e w' => e = .returned (.int .i64 (chkAlg t c.data.toList)) ∧ Below w.heap.size w w' := by
  obtain ⟨o, ho⟩ : ∃ o, chkAlg t c.data.toList = o := ⟨_, rfl⟩
  rw [ho]
  have HO := hide ho
  clear ho
  obtain ⟨W0, hW0⟩ : ∃ W, W = w.alloc (.cells #[.int .i64 t, .string c, .string raw] 38) := ⟨_, rfl⟩
  have n0 : W0.cell? ⟨w.heap.size, 0, none⟩ = some (.int .i64 t) := by rw [hW0, World.cell?_alloc_new]; rfl
  have n1 : W0.cell? ⟨w.heap.size, 1, none⟩ = some (.string c) := by rw [hW0, World.cell?_alloc_new]; rfl
  have n2 : W0.cell? ⟨w.heap.size, 2, none⟩ = some (.string raw) := by rw [hW0, World.cell?_alloc_new]; rfl
  have HB0 := hide (show Below w.heap.size w W0 by rw [hW0]; exact (Below.refl _ _).alloc (Nat.le_refl _) _)
  go_enter Tryd.func19, Tryd.ntmps19
  go_upto_region 1 with fail
  rw [← hW0]
  clear hW0
  obtain ⟨oo, hoo⟩ : ∃ oo, openF t 48 c.data.toList = oo := ⟨_, rfl⟩
  have HX := hide (show o = algG oo by rw [← HO.out, chkAlg_open, hoo])
  have HOO := hide hoo
  clear hoo
  go_wp2_with fail
  refine (Open_any t 48 c raw (by omega) _).mono ?_
  rintro e w1 ⟨hb1, hres⟩
  rw [HOO.out] at hres
  have HB1 := hide (HB0.out.trans (hb1.mono HB0.out.size))
  clear n0 n1 n2
  cases oo with
  | error k =>
    obtain rfl : e = _ := hres
    have hk : k ≠ 0 := fun h => open_err0 (h ▸ HOO.out)
    have ht2 : (k != 0) = true := by simpa using hk
    have HN := hide (show o = k from HX.out)
    have HC1 := hide (HB1.out.alloc HB1.out.size (.cells #[.slice none 0 0, .int .i64 0] 65))
    clear hk hb1
    go_wp2_with fail
    go_ret
    exact ⟨by rw [HN.out]; rfl, HC1.out⟩
  | ok l =>
    obtain ⟨A, cp, rfl, hsl⟩ := hres
    have hlis : listF c.data.toList = .ok l := by
      have := HOO.out
      unfold openF at this
      split at this
      · cases this
      · exact this
    have HML := hide (list_is_wrap _ _ _ (Nat.le_refl _) hlis)
    have HX2 := hide (show o = algL l from HX.out)
    obtain ⟨wA, hwA⟩ : ∃ W, W = w1.alloc (.cells #[.slice A l.length cp, .int .i64 0] 65) := ⟨_, rfl⟩
    have hf := FAt.new hsl hwA
    have hbA : Below w.heap.size w wA := by rw [hwA]; exact HB1.out.alloc HB1.out.size _
    have hgw0 := HB1.out.size
    go_upto_region 2 with fail
    rw [← hwA]
    obtain ⟨g, hg⟩ : ∃ g, g = w1.heap.size := ⟨_, rfl⟩
    rw [← hg] at hf ⊢
    have hgw : w.heap.size ≤ g := by omega
    have HFA := hide hf
    have HBA := hide hbA
    clear hwA hf hsl hg hbA hlis hb1 hgw0
    cases l with
    | nil =>
      have HN := hide (show o = 3 from HX2.out)
      have HNE := hide (show (needF [] 6).1 = .error 3 from rfl)
      go_wp2_with fail
      refine (Need_any g [] 6 _ HFA.out).mono ?_
      rintro e w9 ⟨rfl, hf9, hx9⟩
      have HB9 := hide (Ex.below HBA.out HBA.out.size hgw hx9)
      have HC9 := hide (HB9.out.alloc HB9.out.size (.cells #[.int .i64 0, .string ⟨#[]⟩, .string ⟨#[]⟩] 38))
      rw [show (needF [] 6).1 = .error 3 from HNE.out, show oneR (.error 3) = .tuple #[.agg #[.int .i64 0, .string ⟨#[]⟩, .string ⟨#[]⟩], .int .i64 3] from rfl]
      clear hf9 hx9
      go_wp2_with fail
      go_ret
      exact ⟨by rw [HN.out]; rfl, HC9.out⟩
    | cons a r =>
      obtain ⟨at_, ac, ar⟩ := a
      by_cases h6 : at_ = 6
      · have hacl := (HML.out (at_, ac, ar) (by simp)).2.2.1
        simp only at hacl
        obtain ⟨xa, hxa⟩ : ∃ x : ByteArray, x = ⟨ac.toArray⟩ := ⟨_, rfl⟩
        obtain ⟨xb, hxb⟩ : ∃ x : ByteArray, x = ⟨ar.toArray⟩ := ⟨_, rfl⟩
        have had : ac = xa.data.toList := by rw [hxa]
        rw [had, size_string] at hacl
        have HV := hide (show oneR (.ok (at_, ac, ar)) = .tuple #[.agg #[.int .i64 (at_ : Int), .string xa, .string xb], .int .i64 0] by rw [oneR, eltV, hxa, hxb])
        have HNF := hide (show needF ((at_, ac, ar) :: r) 6 = (.ok (at_, ac, ar), r) by rw [needF, if_neg (fun h => h.2 (by rw [h6]; rfl))])
        obtain ⟨d, hd⟩ : ∃ d, decP xa.data.toList = d := ⟨_, rfl⟩
        have HX4 := hide (show o = algD d r by rw [HX2.out, algL_six h6, had, hd])
        have HDD := hide hd
        clear h6 hd hxa hxb had
        go_wp2_with fail
        refine (Need_any g ((at_, ac, ar) :: r) 6 _ HFA.out).mono ?_
        rintro e w9 ⟨rfl, hf9, hx9⟩
        rw [HNF.out] at hf9 ⊢
        rw [HV.out]
        have hb9 := Ex.below HBA.out HBA.out.size hgw hx9
        go_upto_region 5 with fail
        obtain ⟨wB, hwB⟩ : ∃ W, W = w9.alloc (.cells #[.int .i64 (at_ : Int), .string xa, .string xb] 38) := ⟨_, rfl⟩
        have m1 : wB.cell? ⟨w9.heap.size, 1, none⟩ = some (.string xa) := by rw [hwB, World.cell?_alloc_new]; rfl
        have hbB : Below w9.heap.size w9 wB := by rw [hwB]; exact (Below.refl _ _).alloc (Nat.le_refl _) _
        rw [← hwB]
        have HFB := hide (hf9.below hbB)
        have HBB := hide (hb9.trans (hbB.mono hb9.size))
        clear hwB hf9 hx9 hb9 hbB
        go_wp2_with fail
        refine (rDecode_any xa (by omega) _).mono ?_
        rintro e w10 ⟨rfl, hb10⟩
        rw [HDD.out]
        have HFC := hide (HFB.out.below hb10)
        have HBC := hide (HBB.out.trans (hb10.mono HBB.out.size))
        clear hb10 m1
        cases d with
        | none =>
          have HN := hide (show o = 11 from HX4.out)
          rw [show encR none = .tuple #[.string ⟨#[]⟩, .int .i64 11] from rfl]
          go_wp2_with fail
          go_ret
          exact ⟨by rw [HN.out]; rfl, HBC.out⟩
        | some id =>
          obtain ⟨y, hy⟩ : ∃ y : ByteArray, y = ⟨id.toArray⟩ := ⟨_, rfl⟩
          have hyd : id = y.data.toList := by rw [hy]
          rw [show encR (some id) = .tuple #[.string y, .int .i64 0] by rw [hy]; rfl]
          have HX5 := hide (show o = if y.data.toList ≠ algS ∨ r ≠ [] then 16 else 0 by rw [← hyd]; exact HX4.out)
          have hne := eq_algS (y := y)
          clear hy hyd
          by_cases hs : y.data.toList = algS
          · rw [decide_eq_true hs] at hne
            go_wp2_with fail
            refine (End_any g r _ HFC.out).mono ?_
            rintro e w11 ⟨rfl, nn, hw11⟩
            have HBD := hide (show Below w.heap.size w w11 by rw [hw11]; exact below_drewN HBC.out nn)
            clear hw11
            by_cases hr : r = []
            · have HN := hide (show o = 0 by rw [HX5.out, if_neg (by simp [hs, hr])])
              rw [if_pos hr]
              clear hs hr
              go_wp2_with fail
              go_ret
              exact ⟨by rw [HN.out]; rfl, HBD.out⟩
            · have HN := hide (show o = 16 by rw [HX5.out, if_pos (.inr hr)])
              rw [if_neg hr]
              clear hs hr
              go_wp2_with fail
              go_ret
              exact ⟨by rw [HN.out]; rfl, HBD.out⟩
          · rw [decide_eq_false hs] at hne
            have HN := hide (show o = 16 by rw [HX5.out, if_pos (.inl hs)])
            clear hs
            go_wp2_with fail
            go_ret
            exact ⟨by rw [HN.out]; rfl, HBC.out⟩
      · have HNE := hide (show (needF ((at_, ac, ar) :: r) 6).1 = .error 5 by rw [needF, if_pos ⟨by omega, fun e => h6 (by simp only at e; omega)⟩])
        have HN := hide (show o = 5 by rw [HX2.out, algL, if_pos h6])
        clear h6
        go_wp2_with fail
        refine (Need_any g ((at_, ac, ar) :: r) 6 _ HFA.out).mono ?_
        rintro e w9 ⟨rfl, hf9, hx9⟩
        have HB9 := hide (Ex.below HBA.out HBA.out.size hgw hx9)
        have HC9 := hide (HB9.out.alloc HB9.out.size (.cells #[.int .i64 0, .string ⟨#[]⟩, .string ⟨#[]⟩] 38))
        rw [show (needF ((at_, ac, ar) :: r) 6).1 = .error 5 from HNE.out, show oneR (.error 5) = .tuple #[.agg #[.int .i64 0, .string ⟨#[]⟩, .string ⟨#[]⟩], .int .i64 5] from rfl]
        clear hf9 hx9
        go_wp2_with fail
        go_ret
        exact ⟨by rw [HN.out]; rfl, HC9.out⟩
end Go.Proofs.YtbafpgdmnkkclaaDoor
