/- The law OidOrder, its walk: Less agrees with the definition and is a strict total order. -/
import Derived.Test.YtbhcjohkbaaeiaaDoorOidO
import Derived.Test.YtbhcjohkbaaeiaaDoorOidP
namespace Go.Proofs.YtbhcjohkbaaeiaaDoor
open Go.RowKit

/-- the state of a region that reads two cells of a pair and calls what allocates -/
theorem heldP {W0 W w9 : World} {p q : Addr} {u v : Value} (h : Below W0.heap.size W0 W) (hm : Mx W) (hb : Below W.heap.size W w9) (hc : W.cell? p = some u) (hd : W.cell? q = some v) :
    w9.cell? p = some u ∧ w9.cell? q = some v ∧ Mx w9 ∧ Below W0.heap.size W0 w9 :=
  ⟨cell_grows hb _ _ hc, cell_grows hb _ _ hd, hm.below hb, h.trans (hb.mono h.size)⟩
theorem pairC {P : Program} {f : FuncId} {args : Array Value} {W wx : World} {g : Nat} {p q : ByteArray} {v : Bool} (hc : Calls P f args W fun e w' => e = .returned (.bool v) ∧ Below W.heap.size W w')
    (h0 : W.cell? ⟨g, 0, none⟩ = some (.string p)) (h1 : W.cell? ⟨g, 1, none⟩ = some (.string q)) (h2 : Mx W) (h3 : Below wx.heap.size wx W) :
    Calls P f args W fun e w9 => e = .returned (.bool v) ∧ w9.cell? ⟨g, 0, none⟩ = some (.string p) ∧ w9.cell? ⟨g, 1, none⟩ = some (.string q) ∧ Mx w9 ∧ Below wx.heap.size wx w9 :=
  hc.mono fun _ _ he => ⟨he.1, heldP h3 h2 he.2 h0 h1⟩
theorem Less_v (a b : ByteArray) (ha : a.size ≤ 1000000) (hb : b.size ≤ 1000000) (v : Bool) (hv : lessP a.data.toList b.data.toList = v) (w : World) (hmx : Mx w) :
    Calls Tryd.prog 17 #[.string a, .string b] w fun e w' => e = .returned (.bool v) ∧ Below w.heap.size w w' := hv ▸ Less_any a b ha hb w hmx
theorem rLess_v (a b : ByteArray) (ha : a.size ≤ 1000000) (hb : b.size ≤ 1000000) (v : Bool) (hv : lessP a.data.toList b.data.toList = v) (w : World) :
    Calls Tryd.prog 18 #[.string a, .string b] w fun e w' => e = .returned (.bool v) ∧ Below w.heap.size w w' := hv ▸ rLess_any a b ha hb w
def idS (l : List Int) : ByteArray := ⟨(showL (idL l)).toArray⟩
theorem showL_len : ∀ L : List Nat, (∀ n ∈ L, n ≤ 4294967295) → (showL L).length ≤ 11 * L.length
  | [], _ => by simp [showL, joinC]
  | [n], h => by
    have := decL_len 9 n (by have := h n (by simp); omega)
    show (decL n).length ≤ 11 * 1
    omega
  | n :: m :: r, h => by
    have ih := showL_len (m :: r) (fun x hx => h x (by simp [List.mem_cons.1 hx]))
    have := decL_len 9 n (by have := h n (by simp); omega)
    show (decL n ++ 46 :: showL (m :: r)).length ≤ _
    rw [List.length_append, List.length_cons]
    simp only [List.length_cons] at ih ⊢
    omega
theorem idS_size (l : List Int) : (idS l).size ≤ 132 := by
  have hv := valid_id (l.map Int.toNat)
  have := showL_len (idL l) (fun n hn => by have := hv.2.2.1 n hn; omega)
  have h2 : (idL l).length ≤ 12 := hv.2.1
  show (showL (idL l)).length ≤ 132
  omega
theorem idS_valid (l : List Int) : arcsP (idS l).data.toList = some (idL l) := arcsP_of (valid_id _)
theorem idS_validB (l : List Int) : validB (idS l).data.toList = true := by unfold validB; rw [idS_valid]; rfl


set_option maxRecDepth 100000 in
set_option maxHeartbeats 4000000 in
theorem OidOrder_any (l m n : List Int) (s : ByteArray) (hsm : s.size ≤ maxLen) (A1 A2 A3 : Option Addr) (n1 n2 n3 c1 c2 c3 : Nat) (w : World) (hmx : Mx w)
    (h1 : Sl (RIntK .u32) 1 w (Lt w.heap.size) l [.slice A1 n1 c1]) (h2 : Sl (RIntK .u32) 1 w (Lt w.heap.size) m [.slice A2 n2 c2]) (h3 : Sl (RIntK .u32) 1 w (Lt w.heap.size) n [.slice A3 n3 c3])
    (b1 : ∀ x ∈ l, (Lit.int .u32 x).wf = true) (b2 : ∀ x ∈ m, (Lit.int .u32 x).wf = true) (b3 : ∀ x ∈ n, (Lit.int .u32 x).wf = true) :
    Calls Tryd.prog 5 #[.slice A1 n1 c1, .slice A2 n2 c2, .slice A3 n3 c3, .string s] w fun e w' => e = .returned (.bool true) ∧ Below w.heap.size w w' := by
  have K1 := hide h1
  have K2 := hide h2
  have K3 := hide h3
  have B1 := hide b1
  have B2 := hide b2
  have B3 := hide b3
  have HMX := hide hmx
  clear h1 h2 h3 b1 b2 b3 hmx
  unfold maxLen at hsm
  by_cases hs : s.size ≤ 200
  · go_enter Tryd.func5, Tryd.ntmps5
    go_wp2_with fail
    refine (id_any l A1 n1 c1 _ K1.out B1.out).mono ?_
    rintro e w1 ⟨rfl, hb1⟩
    rw [show (⟨(showL (idL l)).toArray⟩ : ByteArray) = idS l from rfl]
    have HK2 := hide ((Sl.ok (RIntK.ok .u32)).mono K2.out (below_keeps hb1) (fun k hk => Nat.lt_of_lt_of_le hk hb1.size))
    have HB1 := hide hb1
    clear hb1
    go_wp2_with fail
    refine (id_any m A2 n2 c2 _ HK2.out B2.out).mono ?_
    rintro e w2 ⟨rfl, hb2⟩
    rw [show (⟨(showL (idL m)).toArray⟩ : ByteArray) = idS m from rfl]
    have hb2' := HB1.out.trans (hb2.mono HB1.out.size)
    have HK3 := hide ((Sl.ok (RIntK.ok .u32)).mono K3.out (below_keeps hb2') (fun k hk => Nat.lt_of_lt_of_le hk hb2'.size))
    have HB2 := hide hb2'
    clear hb2 hb2'
    go_wp2_with fail
    refine (id_any n A3 n3 c3 _ HK3.out B3.out).mono ?_
    rintro e w3 ⟨rfl, hb3⟩
    rw [show (⟨(showL (idL n)).toArray⟩ : ByteArray) = idS n from rfl]
    have HB3 := hide (HB2.out.trans (hb3.mono HB2.out.size))
    clear hb3
    have ha1 := idS_size l
    have ha2 := idS_size m
    have ha3 := idS_size n
    have hv1 := idS_validB l
    have hv2 := idS_validB m
    have hv3 := idS_validB n
    obtain ⟨a, ha⟩ : ∃ a, idS l = a := ⟨_, rfl⟩
    obtain ⟨b, hb⟩ : ∃ b, idS m = b := ⟨_, rfl⟩
    obtain ⟨d, hd⟩ : ∃ d, idS n = d := ⟨_, rfl⟩
    rw [ha] at ha1 hv1 ⊢
    rw [hb] at ha2 hv2 ⊢
    rw [hd] at ha3 hv3 ⊢
    have HV1 := hide hv1
    have HV2 := hide hv2
    have HV3 := hide hv3
    clear hv1 hv2 hv3 ha hb hd
    obtain ⟨v1, hv1⟩ : ∃ v, lessP a.data.toList b.data.toList = v := ⟨_, rfl⟩
    obtain ⟨v2, hv2⟩ : ∃ v, lessP b.data.toList d.data.toList = v := ⟨_, rfl⟩
    obtain ⟨v3, hv3⟩ : ∃ v, lessP a.data.toList d.data.toList = v := ⟨_, rfl⟩
    obtain ⟨v4, hv4⟩ : ∃ v, lessP b.data.toList a.data.toList = v := ⟨_, rfl⟩
    have H1 := hide hv1
    have H2 := hide hv2
    have H3 := hide hv3
    have H4 := hide hv4
    clear hv1 hv2 hv3 hv4
    go_wp2_with fail
    obtain ⟨W0, hW0⟩ : ∃ W0, W0 = w3.alloc (.cells #[.string a, .string b, .string b, .string a, .string a, .string s, .string s, .string b, .string a, .string a] 33) := ⟨_, rfl⟩
    have hcells : ∀ k, k < 5 → ∃ p q : ByteArray, p.size ≤ 1000 ∧ q.size ≤ 1000 ∧ W0.cell? ⟨w3.heap.size, k * 2, none⟩ = some (.string p) ∧ W0.cell? ⟨w3.heap.size, k * 2 + 1, none⟩ = some (.string q) := fun k hk => by
      rw [hW0, World.cell?_alloc_new, World.cell?_alloc_new]
      match k, hk with
      | 0, _ => exact ⟨_, _, by omega, by omega, rfl, rfl⟩
      | 1, _ => exact ⟨_, _, by omega, by omega, rfl, rfl⟩
      | 2, _ => exact ⟨_, _, by omega, by omega, rfl, rfl⟩
      | 3, _ => exact ⟨_, _, by omega, by omega, rfl, rfl⟩
      | 4, _ => exact ⟨_, _, by omega, by omega, rfl, rfl⟩
    have hb0 : Below w.heap.size w W0 := by rw [hW0]; exact HB3.out.alloc HB3.out.size _
    have hsz0 : W0.heap.size = w3.heap.size + 1 := by rw [hW0]; simp
    rw [← hW0]
    have HC := hide hcells
    have HB0 := hide hb0
    have HSZ := hide hsz0
    clear hcells hb0 hW0 hsz0
    go_loopw [42] (fun i wr => ∃ k : Nat, k ≤ 5 ∧ i = .int .i64 k ∧ Below W0.heap.size W0 wr) (fun i _ => 5 - (intOf i).toNat)
    case atStart => exact ⟨0, by omega, rfl, Below.refl _ _⟩
    case round =>
      obtain ⟨k, hk, rfl, hb⟩ := hrel
      have hbw : Below w.heap.size w wr := HB0.out.trans (hb.mono HB0.out.size)
      have HBW := hide hbw
      have HMXr := hide (HMX.out.below hbw)
      by_cases hlt : k < 5
      · obtain ⟨p, q, hp, hq, hc1, hc2⟩ := HC.out k hlt
        have hc1' : wr.cell? ⟨w3.heap.size, k * 2, none⟩ = some (.string p) := (hb.cell (show w3.heap.size < W0.heap.size by have := HSZ.out; omega)).trans hc1
        have hc2' : wr.cell? ⟨w3.heap.size, k * 2 + 1, none⟩ = some (.string q) := (hb.cell (show w3.heap.size < W0.heap.size by have := HSZ.out; omega)).trans hc2
        have HB := hide hb
        clear hb hbw hc1 hc2
        go_wp2_with fail
        obtain ⟨wx, hwx⟩ : ∃ wx, wx = wr.alloc (.cells #[.string p, .string q] 33) := ⟨_, rfl⟩
        have hx0 : wx.cell? ⟨wr.heap.size, 0, none⟩ = some (.string p) := by rw [hwx, World.cell?_alloc_new]; rfl
        have hx1 : wx.cell? ⟨wr.heap.size, 1, none⟩ = some (.string q) := by rw [hwx, World.cell?_alloc_new]; rfl
        have hbx : Below wr.heap.size wr wx := by rw [hwx]; exact (Below.refl _ _).alloc (Nat.le_refl _) _
        have hmx : Mx wx := HMXr.out.below hbx
        have HBX := hide (HB.out.trans (hbx.mono HB.out.size))
        have hbb : Below wx.heap.size wx wx := Below.refl _ _
        have hmxd : Mx wx.drew := hmx
        obtain ⟨v, hv⟩ : ∃ v, lessP p.data.toList q.data.toList = v := ⟨_, rfl⟩
        have LC := hide (fun W h0 h1 h2 h3 => pairC (g := wr.heap.size) (p := p) (q := q) (wx := wx) (Less_v p q (by omega) (by omega) v hv W h2) h0 h1 h2 h3)
        have RC := hide (fun W h0 h1 h2 h3 => pairC (g := wr.heap.size) (p := p) (q := q) (wx := wx) (rLess_v p q (by omega) (by omega) v hv W) h0 h1 h2 h3)
        have htt : (v != v) = false := by cases v <;> rfl
        rw [← hwx]
        clear hwx hc1' hc2' hbx hv
        go_region_held3 (fun W => W.cell? ⟨wr.heap.size, 0, none⟩ = some (.string p) ∧ W.cell? ⟨wr.heap.size, 1, none⟩ = some (.string q) ∧ Mx W ∧ Below wx.heap.size wx W)
          (first | exact ⟨hs1, hs2, hs3, hs4⟩ | exact ⟨hx0, hx1, hmx, hbb⟩ | exact ⟨hx0, hx1, hmxd, hbb.drew⟩)
          (first
            | (go_at_call 17; (first | refine (LC.out _ hs1 hs2 hs3 hs4).mono ?_ | refine (LC.out wx.drew hx0 hx1 hmxd hbb.drew).mono ?_); rintro e w9 ⟨rfl, hs1, hs2, hs3, hs4⟩)
            | (go_at_call 18; (first | refine (RC.out _ hs1 hs2 hs3 hs4).mono ?_ | refine (RC.out wx.drew hx0 hx1 hmxd hbb.drew).mono ?_); rintro e w9 ⟨rfl, hs1, hs2, hs3, hs4⟩))
        go_wp2_with fail
        go_roundw
        case rel => exact ⟨k + 1, by omega, by go_num, HBX.out.trans (hs4.mono HBX.out.size)⟩
        case measure => simp [intOf]; omega
      · have HM := HMXr
        have HB := HBW
        have HAB := hide (show (a = b ∧ v1 = v4) ∨ (¬ a.toList = b.toList ∧ (a.toList == b.toList) = false ∧ v1 = !v4) from by
          by_cases hab : a.toList = b.toList
          · rw [ByteArray.toList_eq, ByteArray.toList_eq] at hab
            have hd : a = b := ByteArray.ext (Array.toList_inj.1 hab)
            refine .inl ⟨hd, ?_⟩
            rw [← H1.out, ← H4.out, hd]
          · refine .inr ⟨hab, by simpa using hab, ?_⟩
            rw [← H1.out, ← H4.out]
            rw [ByteArray.toList_eq, ByteArray.toList_eq] at hab
            exact lessP_tri HV1.out HV2.out hab)
        have IRR := hide (lessP_irr a.data.toList)
        clear hb hbw
        go_wp2_with fail
        refine (Less_v a b (by omega) (by omega) v1 H1.out _ HM.out).mono ?_
        rintro e w9 ⟨rfl, hb9⟩
        have HM := hide (HM.out.below hb9)
        have HB := hide (HB.out.trans (hb9.mono HB.out.size))
        clear hb9
        cases v1
        · go_wp2_with fail
          refine (oawake_any _ HM.out).mono ?_
          rintro e w9 ⟨rfl, hb9⟩
          have HM := hide (HM.out.below hb9)
          have HB := hide (HB.out.trans (hb9.mono HB.out.size))
          clear hb9
          go_wp2_with fail
          refine (Less_v a a (by omega) (by omega) false IRR.out _ HM.out).mono ?_
          rintro e w9 ⟨rfl, hb9⟩
          have HM := hide (HM.out.below hb9)
          have HB := hide (HB.out.trans (hb9.mono HB.out.size))
          clear hb9
          rcases HAB.out with ⟨e1, e4⟩ | ⟨e1, e2, e3⟩
          · subst e4
            subst e1
            go_wp2_with fail
            refine (Less_v a a (by omega) (by omega) false H1.out _ HM.out).mono ?_
            rintro e w9 ⟨rfl, hb9⟩
            have HM := hide (HM.out.below hb9)
            have HB := hide (HB.out.trans (hb9.mono HB.out.size))
            clear hb9
            go_wp2_with fail
            refine (Less_v a a (by omega) (by omega) false H4.out _ HM.out).mono ?_
            rintro e w9 ⟨rfl, hb9⟩
            have HM := hide (HM.out.below hb9)
            have HB := hide (HB.out.trans (hb9.mono HB.out.size))
            clear hb9
            go_wp2_with fail
            go_ret
            exact ⟨rfl, HB.out⟩
          · cases v4
            · first
              | exact absurd e3 (by decide)
              | (clear e3
                 go_wp2_with fail
                 refine (Less_v a b (by omega) (by omega) false H1.out _ HM.out).mono ?_
                 rintro e w9 ⟨rfl, hb9⟩
                 have HM := hide (HM.out.below hb9)
                 have HB := hide (HB.out.trans (hb9.mono HB.out.size))
                 clear hb9
                 go_wp2_with fail
                 refine (Less_v b a (by omega) (by omega) false H4.out _ HM.out).mono ?_
                 rintro e w9 ⟨rfl, hb9⟩
                 have HM := hide (HM.out.below hb9)
                 have HB := hide (HB.out.trans (hb9.mono HB.out.size))
                 clear hb9
                 go_wp2_with fail
                 go_ret
                 exact ⟨rfl, HB.out⟩)
            · first
              | exact absurd e3 (by decide)
              | (clear e3
                 go_wp2_with fail
                 refine (Less_v a b (by omega) (by omega) false H1.out _ HM.out).mono ?_
                 rintro e w9 ⟨rfl, hb9⟩
                 have HM := hide (HM.out.below hb9)
                 have HB := hide (HB.out.trans (hb9.mono HB.out.size))
                 clear hb9
                 go_wp2_with fail
                 refine (Less_v b a (by omega) (by omega) true H4.out _ HM.out).mono ?_
                 rintro e w9 ⟨rfl, hb9⟩
                 have HM := hide (HM.out.below hb9)
                 have HB := hide (HB.out.trans (hb9.mono HB.out.size))
                 clear hb9
                 go_wp2_with fail
                 go_ret
                 exact ⟨rfl, HB.out⟩)
        · go_wp2_with fail
          refine (Less_v b d (by omega) (by omega) v2 H2.out _ HM.out).mono ?_
          rintro e w9 ⟨rfl, hb9⟩
          have HM := hide (HM.out.below hb9)
          have HB := hide (HB.out.trans (hb9.mono HB.out.size))
          clear hb9
          cases v2
          · go_wp2_with fail
            refine (oawake_any _ HM.out).mono ?_
            rintro e w9 ⟨rfl, hb9⟩
            have HM := hide (HM.out.below hb9)
            have HB := hide (HB.out.trans (hb9.mono HB.out.size))
            clear hb9
            go_wp2_with fail
            refine (Less_v a a (by omega) (by omega) false IRR.out _ HM.out).mono ?_
            rintro e w9 ⟨rfl, hb9⟩
            have HM := hide (HM.out.below hb9)
            have HB := hide (HB.out.trans (hb9.mono HB.out.size))
            clear hb9
            rcases HAB.out with ⟨e1, e4⟩ | ⟨e1, e2, e3⟩
            · subst e4
              subst e1
              go_wp2_with fail
              refine (Less_v a a (by omega) (by omega) true H1.out _ HM.out).mono ?_
              rintro e w9 ⟨rfl, hb9⟩
              have HM := hide (HM.out.below hb9)
              have HB := hide (HB.out.trans (hb9.mono HB.out.size))
              clear hb9
              go_wp2_with fail
              refine (Less_v a a (by omega) (by omega) true H4.out _ HM.out).mono ?_
              rintro e w9 ⟨rfl, hb9⟩
              have HM := hide (HM.out.below hb9)
              have HB := hide (HB.out.trans (hb9.mono HB.out.size))
              clear hb9
              go_wp2_with fail
              go_ret
              exact ⟨rfl, HB.out⟩
            · cases v4
              · first
                | exact absurd e3 (by decide)
                | (clear e3
                   go_wp2_with fail
                   refine (Less_v a b (by omega) (by omega) true H1.out _ HM.out).mono ?_
                   rintro e w9 ⟨rfl, hb9⟩
                   have HM := hide (HM.out.below hb9)
                   have HB := hide (HB.out.trans (hb9.mono HB.out.size))
                   clear hb9
                   go_wp2_with fail
                   refine (Less_v b a (by omega) (by omega) false H4.out _ HM.out).mono ?_
                   rintro e w9 ⟨rfl, hb9⟩
                   have HM := hide (HM.out.below hb9)
                   have HB := hide (HB.out.trans (hb9.mono HB.out.size))
                   clear hb9
                   go_wp2_with fail
                   go_ret
                   exact ⟨rfl, HB.out⟩)
              · first
                | exact absurd e3 (by decide)
                | (clear e3
                   go_wp2_with fail
                   refine (Less_v a b (by omega) (by omega) true H1.out _ HM.out).mono ?_
                   rintro e w9 ⟨rfl, hb9⟩
                   have HM := hide (HM.out.below hb9)
                   have HB := hide (HB.out.trans (hb9.mono HB.out.size))
                   clear hb9
                   go_wp2_with fail
                   refine (Less_v b a (by omega) (by omega) true H4.out _ HM.out).mono ?_
                   rintro e w9 ⟨rfl, hb9⟩
                   have HM := hide (HM.out.below hb9)
                   have HB := hide (HB.out.trans (hb9.mono HB.out.size))
                   clear hb9
                   go_wp2_with fail
                   go_ret
                   exact ⟨rfl, HB.out⟩)
          · have HT := lessP_trans H1.out H2.out
            have h3 : v3 = true := H3.out.symm.trans HT
            subst h3
            go_wp2_with fail
            refine (Less_v a d (by omega) (by omega) true H3.out _ HM.out).mono ?_
            rintro e w9 ⟨rfl, hb9⟩
            have HM := hide (HM.out.below hb9)
            have HB := hide (HB.out.trans (hb9.mono HB.out.size))
            clear hb9
            go_wp2_with fail
            refine (oawake_any _ HM.out).mono ?_
            rintro e w9 ⟨rfl, hb9⟩
            have HM := hide (HM.out.below hb9)
            have HB := hide (HB.out.trans (hb9.mono HB.out.size))
            clear hb9
            go_wp2_with fail
            refine (Less_v a a (by omega) (by omega) false IRR.out _ HM.out).mono ?_
            rintro e w9 ⟨rfl, hb9⟩
            have HM := hide (HM.out.below hb9)
            have HB := hide (HB.out.trans (hb9.mono HB.out.size))
            clear hb9
            rcases HAB.out with ⟨e1, e4⟩ | ⟨e1, e2, e3⟩
            · subst e4
              subst e1
              go_wp2_with fail
              refine (Less_v a a (by omega) (by omega) true H1.out _ HM.out).mono ?_
              rintro e w9 ⟨rfl, hb9⟩
              have HM := hide (HM.out.below hb9)
              have HB := hide (HB.out.trans (hb9.mono HB.out.size))
              clear hb9
              go_wp2_with fail
              refine (Less_v a a (by omega) (by omega) true H4.out _ HM.out).mono ?_
              rintro e w9 ⟨rfl, hb9⟩
              have HM := hide (HM.out.below hb9)
              have HB := hide (HB.out.trans (hb9.mono HB.out.size))
              clear hb9
              go_wp2_with fail
              go_ret
              exact ⟨rfl, HB.out⟩
            · cases v4
              · first
                | exact absurd e3 (by decide)
                | (clear e3
                   go_wp2_with fail
                   refine (Less_v a b (by omega) (by omega) true H1.out _ HM.out).mono ?_
                   rintro e w9 ⟨rfl, hb9⟩
                   have HM := hide (HM.out.below hb9)
                   have HB := hide (HB.out.trans (hb9.mono HB.out.size))
                   clear hb9
                   go_wp2_with fail
                   refine (Less_v b a (by omega) (by omega) false H4.out _ HM.out).mono ?_
                   rintro e w9 ⟨rfl, hb9⟩
                   have HM := hide (HM.out.below hb9)
                   have HB := hide (HB.out.trans (hb9.mono HB.out.size))
                   clear hb9
                   go_wp2_with fail
                   go_ret
                   exact ⟨rfl, HB.out⟩)
              · first
                | exact absurd e3 (by decide)
                | (clear e3
                   go_wp2_with fail
                   refine (Less_v a b (by omega) (by omega) true H1.out _ HM.out).mono ?_
                   rintro e w9 ⟨rfl, hb9⟩
                   have HM := hide (HM.out.below hb9)
                   have HB := hide (HB.out.trans (hb9.mono HB.out.size))
                   clear hb9
                   go_wp2_with fail
                   refine (Less_v b a (by omega) (by omega) true H4.out _ HM.out).mono ?_
                   rintro e w9 ⟨rfl, hb9⟩
                   have HM := hide (HM.out.below hb9)
                   have HB := hide (HB.out.trans (hb9.mono HB.out.size))
                   clear hb9
                   go_wp2_with fail
                   go_ret
                   exact ⟨rfl, HB.out⟩)
  · go_enter Tryd.func5, Tryd.ntmps5
    go_wp2_with fail
    refine (oawake_any _ HMX.out).mono ?_
    rintro e w3 ⟨rfl, hb3⟩
    go_wp2_with fail
    go_ret
    exact ⟨rfl, hb3⟩
end Go.Proofs.YtbhcjohkbaaeiaaDoor
