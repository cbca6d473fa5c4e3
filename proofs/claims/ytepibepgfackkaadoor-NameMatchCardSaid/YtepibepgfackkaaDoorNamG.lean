/- The law NameMatch, its walk. -/
import Derived.Test.YtepibepgfackkaaDoorNamO
import Derived.Test.YtepibepgfackkaaDoorNamF
namespace Go.Proofs.YtepibepgfackkaaDoor
open Go.RowKit

/-- what a region that cuts a name leaves -/
def PreCut (d : Nat) (m : Name) (w3 : World) (s : Value) (wx : World) : Prop := ∃ g v : Nat, s = .pointer (some ⟨g, 0, none⟩) ∧ NmAt d (m.take v) g wx ∧ DeckAt wx d ∧ Ex d w3 wx
theorem take_sl {d v c : Nat} {m : Name} {w3 w9 : World} {A : Option Addr} (h : Sl RRdn 1 w3 (Nd d w3.heap.size) m [.slice A m.length c]) (hv : v ≤ m.length) (h3 : Ex d w3 w9) : Sl RRdn 1 w9 (Nd d w3.heap.size) (m.take v) [.slice A v c] := by
  have hl : (m.take v).length = v := by rw [List.length_take]; omega
  have h1 : Sl RRdn 1 w9 (Nd d w3.heap.size) m [.slice A m.length c] := (Sl.ok RRdn.ok).mono h h3.keeps (fun _ hk => hk)
  have h2 : Sl RRdn 1 w9 (Nd d w3.heap.size) (m.take v ++ m.drop v) [.slice A m.length c] := by rw [List.take_append_drop]; exact h1
  have h4 := h2.take_
  rwa [hl] at h4
theorem precut_new {d v c : Nat} {m : Name} {w3 w9 : World} {A : Option Addr} (h : Sl RRdn 1 w3 (Nd d w3.heap.size) m [.slice A m.length c]) (hv : v ≤ m.length) (h2 : DeckAt w9 d) (h3 : Ex d w3 w9) :
    PreCut d m w3 (.pointer (some ⟨w9.heap.size, 0, none⟩)) (w9.alloc (.cells #[.slice A v c] 24)) := by
  have hl : (m.take v).length = v := by rw [List.length_take]; omega
  have hs : Sl RRdn 1 w9 (Nd d w9.heap.size) (m.take v) [.slice A (m.take v).length c] := by
    rw [hl]
    exact (Sl.ok RRdn.ok).mono (take_sl h hv h3) (fun _ _ => rfl) (fun k hk => ⟨Nat.lt_of_lt_of_le hk.1 h3.size, hk.2⟩)
  have := NmAt.new hs h2.lt
  rw [hl] at this
  exact ⟨_, v, rfl, this, h2.alloc _, h3.alloc _⟩
theorem precut_set {d v c g : Nat} {m : Name} {w3 w9 : World} {A : Option Addr} {u : Value} (h : Sl RRdn 1 w3 (Nd d w3.heap.size) m [.slice A m.length c]) (hv : v ≤ m.length) (hg : NB g u w9) (hd : d < g) (hg3 : w3.heap.size ≤ g) (h2 : DeckAt w9 d) (h3 : Ex d w3 w9) :
    PreCut d m w3 (.pointer (some ⟨g, 0, none⟩)) (w9.setCell ⟨g, 0, none⟩ (.slice A v c)) := by
  have hl : (m.take v).length = v := by rw [List.length_take]; omega
  have hs : Sl RRdn 1 w9 (fun k => k < w9.heap.size ∧ k ≠ d ∧ k ≠ g) (m.take v) [.slice A (m.take v).length c] := by
    rw [hl]
    exact (Sl.ok RRdn.ok).mono (take_sl h hv h3) (fun _ _ => rfl) (fun k hk => ⟨Nat.lt_of_lt_of_le hk.1 h3.size, hk.2, by have := hk.1; omega⟩)
  have := NmAt.store hg (by omega) hs
  rw [hl] at this
  exact ⟨g, v, rfl, this, h2.set_ hd _, h3.setNew hg3 _⟩
theorem rMatch_v2 (n m : Name) (A B : Option Addr) (c d : Nat) (q : Bool) (hq : matchN n m = q) (w : World) (h : Sl RRdn 1 w (Lt w.heap.size) n [.slice A n.length c]) (h2 : Sl RRdn 1 w (Lt w.heap.size) m [.slice B m.length d]) (hs1 : SmallN n) (hs2 : SmallN m) :
    Calls Tryd.prog 19 #[.agg #[.slice A n.length c], .agg #[.slice B m.length d]] w fun e w' => e = .returned (.bool q) ∧ Below w.heap.size w w' := hq ▸ rMatchN_any n m A B c d w h h2 hs1 hs2
theorem rWithin_v2 (n m : Name) (A B : Option Addr) (c d : Nat) (q : Bool) (hq : withinN n m = q) (w : World) (h : Sl RRdn 1 w (Lt w.heap.size) n [.slice A n.length c]) (h2 : Sl RRdn 1 w (Lt w.heap.size) m [.slice B m.length d]) (hs1 : SmallN n) (hs2 : SmallN m) :
    Calls Tryd.prog 21 #[.agg #[.slice A n.length c], .agg #[.slice B m.length d]] w fun e w' => e = .returned (.bool q) ∧ Below w.heap.size w w' := hq ▸ rWithin_any n m A B c d w h h2 hs1 hs2
theorem two_held {P : Program} {f : FuncId} {args : Array Value} {W wx : World} {q : Bool} {g : Nat} {u1 u2 : Value} (hc : Calls P f args W fun e w' => e = .returned (.bool q) ∧ Below W.heap.size W w')
    (h1 : W.cell? ⟨g, 0, none⟩ = some u1) (h2 : W.cell? ⟨g, 1, none⟩ = some u2) (h3 : Below wx.heap.size wx W) :
    Calls P f args W fun e w9 => e = .returned (.bool q) ∧ w9.cell? ⟨g, 0, none⟩ = some u1 ∧ w9.cell? ⟨g, 1, none⟩ = some u2 ∧ Below wx.heap.size wx w9 :=
  hc.mono fun _ _ ⟨he, hb⟩ => ⟨he, cell_grows hb _ _ h1, cell_grows hb _ _ h2, h3.trans (hb.mono h3.size)⟩
/-- a name that lies in memory -/
def NmV (W : World) (v : Value) : Prop := ∃ (n : Name) (A : Option Addr) (c : Nat), v = .slice A n.length c ∧ Sl RRdn 1 W (Lt W.heap.size) n [.slice A n.length c] ∧ SmallN n

set_option maxRecDepth 100000 in
set_option maxHeartbeats 16000000 in
theorem NameMatch_any (a b : Name) (Aa Ab : Option Addr) (ca cb : Nat) (l : List Int) (A0 : Option Addr) (n0 c0 : Nat) (w : World) (hmx : Mx w) (ha : Sl RRdn 1 w (Lt w.heap.size) a [.slice Aa a.length ca]) (hb : Sl RRdn 1 w (Lt w.heap.size) b [.slice Ab b.length cb]) (h : Sl RInt 1 w (Lt w.heap.size) l [.slice A0 n0 c0]) :
    Calls Tryd.prog 4 #[.agg #[.slice Aa a.length ca], .agg #[.slice Ab b.length cb], .slice A0 n0 c0] w fun e w' => e = .returned (.bool true) ∧ Below w.heap.size w w' := by
  have HMX := hide hmx
  have K := hide h
  have KA := hide ha
  have KB := hide hb
  obtain ⟨qa, hqa⟩ : ∃ q, shortN a = q := ⟨_, rfl⟩
  obtain ⟨qb, hqb⟩ : ∃ q, shortN b = q := ⟨_, rfl⟩
  have QA := hide hqa
  have QB := hide hqb
  obtain ⟨w0, hw0⟩ : ∃ w0, w0 = (w.alloc (.cells #[.slice Aa a.length ca] 24)).alloc (.cells #[.slice Ab b.length cb] 24) := ⟨_, rfl⟩
  have hA0 : NB w.heap.size (.slice Aa a.length ca) w0 := by
    unfold NB
    rw [hw0, Below.heap_alloc _ _ _ (by simp)]
    exact heap_alloc_new w _
  have hB0 : NB (w.heap.size + 1) (.slice Ab b.length cb) w0 := by
    unfold NB
    rw [hw0, show w.heap.size + 1 = (w.alloc (.cells #[.slice Aa a.length ca] 24)).heap.size by simp]
    exact heap_alloc_new _ _
  have hb0 : Below w.heap.size w w0 := by rw [hw0]; exact ((Below.refl _ _).alloc (Nat.le_refl _) _).alloc (by simp) _
  have HB0 := hide hb0
  have NA := hide hA0
  have NBB := hide hB0
  have hnba := hA0.facts.1
  have hnbb := hB0.facts.1
  have HW0 := hide hw0
  clear hmx h ha hb hqa hqb hA0 hB0 hb0 hw0
  go_enter Tryd.func4, Tryd.ntmps4
  go_upto_region 1 with (fail)
  rw [← HW0.out]
  go_wp2_with fail
  refine (Short_any a Aa ca _ ((Sl.ok RRdn.ok).below KA.out HB0.out) qa QA.out).mono ?_
  rintro e w1 ⟨rfl, hb1⟩
  have HB1 := hide (HB0.out.trans (hb1.mono HB0.out.size))
  have NA := hide (NA.out.below hb1)
  have NBB := hide (NBB.out.below hb1)
  have hnbb1 := NBB.out.facts.1
  clear hb1 hnba hnbb
  cases qa
  · go_wp2_with fail
    refine (nawake_any _ (HMX.out.below HB1.out)).mono ?_
    rintro e w3 ⟨rfl, hb3⟩
    go_wp2_with fail
    go_ret
    exact ⟨rfl, HB1.out.trans (hb3.mono HB1.out.size)⟩
  · go_wp2_with fail
    refine (Short_any b Ab cb _ ((Sl.ok RRdn.ok).below KB.out HB1.out) qb QB.out).mono ?_
    rintro e w2 ⟨rfl, hb2⟩
    have HB2 := hide (HB1.out.trans (hb2.mono HB1.out.size))
    have NA := hide (NA.out.below hb2)
    have NBB := hide (NBB.out.below hb2)
    clear hb2 hnbb1
    cases qb
    · go_wp2_with fail
      refine (nawake_any _ (HMX.out.below HB2.out)).mono ?_
      rintro e w3 ⟨rfl, hb3⟩
      go_wp2_with fail
      go_ret
      exact ⟨rfl, HB2.out.trans (hb3.mono HB2.out.size)⟩
    · have SMA := hide (shortN_small QA.out)
      have SMB := hide (shortN_small QB.out)
      have hgA : w.heap.size < w2.heap.size := NA.out.lt
      have hgB : w.heap.size + 1 < w2.heap.size := NBB.out.lt
      go_wp2_with fail
      refine (New_any l A0 n0 c0 _ ((Sl.ok RInt.ok).below K.out HB2.out)).mono ?_
      rintro e w3 ⟨rfl, hdk3, hb3⟩
      obtain ⟨d, hd⟩ : ∃ d, d = w2.heap.size := ⟨_, rfl⟩
      rw [← hd] at hdk3 hgA hgB ⊢
      have HD := hide hd
      have HB3 := hide (HB2.out.trans (hb3.mono HB2.out.size))
      have HDK3 := hide hdk3
      have NA := hide (NA.out.below hb3)
      have NBB := hide (NBB.out.below hb3)
      have hdA : w.heap.size ≠ d := by omega
      have hdB : w.heap.size + 1 ≠ d := by omega
      have HWD := hide (show w.heap.size ≤ d by omega)
      clear hd hb3 hdk3 hgA hgB
      go_wp2_with fail
      refine (Name_any d _ HDK3.out).mono ?_
      rintro e w4 ⟨n, vn, hgn, rfl, hsl4, hdk4, hex4⟩
      obtain ⟨A1, c1, hvn⟩ := hsl4.shape
      subst hvn
      have HNN := hide (NmAt.new ((Sl.ok RRdn.ok).mono hsl4 (fun _ _ => rfl) (fun k hk => ⟨hk.2, by have := hk.1; have := HDK3.out.lt; omega⟩)) hdk4.lt)
      have HEX := hide (hex4.alloc (.cells #[.slice A1 n.length c1] 24))
      have HDK := hide (hdk4.alloc (.cells #[.slice A1 n.length c1] 24))
      have BN := hide hgn.bnd
      clear hgn hex4 hdk4 hsl4
      go_upto_region 5 with (fail)
      obtain ⟨w5, hw5⟩ : ∃ w5, w5 = w4.alloc (.cells #[.slice A1 n.length c1] 24) := ⟨_, rfl⟩
      obtain ⟨gn, hgn⟩ : ∃ gn, gn = w4.heap.size := ⟨_, rfl⟩
      rw [← hw5] at HNN HEX HDK ⊢
      rw [← hgn] at HNN ⊢
      clear hw5 hgn
      obtain ⟨A1, c1, hn1, -, -, hsl5⟩ := HNN.out.sl
      have HSL5 := hide hsl5
      clear hsl5
      go_wp2_with fail
      refine (spelled_any d 15 (by omega) n BN.out A1 c1 _ HDK.out HSL5.out).mono ?_
      rintro e w6 ⟨m, vm, hsp, rfl, hsl6, hdk6, hex6⟩
      obtain ⟨A2, c2, hvm⟩ := hsl6.shape
      subst hvm
      have HNM := hide (NmAt.new ((Sl.ok RRdn.ok).mono hsl6 (fun _ _ => rfl) (fun k hk => ⟨hk.2, by have := hk.1; have := HDK.out.lt; omega⟩)) hdk6.lt)
      have hex7 := hex6.alloc (.cells #[.slice A2 m.length c2] 24)
      have HNN := hide (HNN.out.ex hex7)
      have HEX := hide (HEX.out.trans hex7)
      have HDK := hide (hdk6.alloc (.cells #[.slice A2 m.length c2] 24))
      have BM := hide (hsp.bnd BN.out)
      have HSP := hide hsp
      have hlm : m.length ≤ 10 := BM.out.1
      clear hsp hex6 hdk6 hsl6 hex7 hn1
      go_upto_region 6 with (fail)
      obtain ⟨w7, hw7⟩ : ∃ w7, w7 = w6.alloc (.cells #[.slice A2 m.length c2] 24) := ⟨_, rfl⟩
      obtain ⟨gm, hgm⟩ : ∃ gm, gm = w6.heap.size := ⟨_, rfl⟩
      rw [← hw7] at HNN HNM HEX HDK ⊢
      rw [← hgm] at HNM ⊢
      clear hw7 hgm
      obtain ⟨A2, c2, hx1, hc1, hgd, hsl7⟩ := HNM.out.sl
      have HSL7 := hide hsl7
      have hx2 := HDK.out
      have hdl := hx2.lt
      have hgl : gm < w7.heap.size := World.block_lt_of_cell? w7 ⟨gm, 0, none⟩ hx1
      have hx3 : Ex d w7 w7 := Ex.refl _ _
      have hx2d : DeckAt w7.drew d := hx2
      have hx3d : Ex d w7 w7.drew := hx3.drew
      have hwr : IntKind.i64.wrap ((m.length : Int) + 1) = (m.length : Int) + 1 := IntWalk.i64_in _ (by omega)
      have NX := hide (fun W h1 h2 h3 => next_held (d := d) (ga := gm) (u := .slice A2 m.length c2) (w3 := w7) (W := W) (n := m.length) (N := (m.length : Int) + 1) rfl (by omega) hgd h1 h2 h3)
      have SLH := hide (fun v (hv : v ≤ c2) W => sl_hi A2 m.length c2 v hv W)
      clear hsl7
      go_cut [10] (fun s wx => PreCut d m w7 s wx)
      case first =>
        go_region_held3 (fun W => W.cell? ⟨gm, 0, none⟩ = some (.slice A2 m.length c2) ∧ DeckAt W d ∧ Ex d w7 W)
          (first | exact ⟨hs1, hs2, hs3⟩ | exact ⟨alc hs1 _, hs2.alloc _, hs3.alloc _⟩ | exact stS hs1 hs2 hs3 hgl hdl (Nat.le_refl _) | exact ⟨hx1, hx2, hx3⟩ | exact ⟨hx1, hx2d, hx3d⟩ | exact ⟨alc hx1 _, hx2d.alloc _, hx3d.alloc _⟩)
          (first
            | (go_at_call 17; refine (NX.out w7.drew hx1 hx2d hx3d).mono ?_; rintro e w9 ⟨v9, hv9, rfl, hs1, hs2, hs3, hs4⟩; have q9 := SLH.out v9 (Nat.le_trans hv9 hc1))
            | (go_at_call 17; refine (NX.out (w7.alloc ZN).drew (alc hx1 _) (hx2.alloc _) (hx3.alloc _).drew).mono ?_; rintro e w9 ⟨v9, hv9, rfl, hs1, hs2, hs3, hs4⟩; have q9 := SLH.out v9 (Nat.le_trans hv9 hc1); have hnb := (nb_newd w7).ex hs4 (Nat.ne_of_gt hdl); have q5 := hnb.facts.1; have q6 := hnb.facts.2)
            | fail)
        all_goals
          go_wp2_with fail
          go_meet
          first
          | exact precut_new HSL7.out hv9 hs2 hs3
          | exact precut_set HSL7.out hv9 hnb hdl (Nat.le_refl _) hs2 hs3
      case rest =>
        obtain ⟨go, v9, rfl, hno, hdk8, hex8⟩ := hcut
        obtain ⟨w8, rfl⟩ : ∃ w8 : World, w8 = wc := ⟨_, rfl⟩
        have HNN := hide (HNN.out.ex hex8)
        have HNM := hide (HNM.out.ex hex8)
        have HEX := hide (HEX.out.trans hex8)
        have HNO := hide hno
        have HDK := hide hdk8
        clear hno hdk8 hex8 NX SLH HSL7 hx1 hx2 hx3 hx2d hx3d hwr hgd hdl hgl hc1 hlm
        go_wp2_with fail
        refine (Name_any d _ HDK.out).mono ?_
        rintro e w9 ⟨p, vp, hgp, rfl, hslp, hdkp, hexp⟩
        obtain ⟨A4, c4, hvp⟩ := hslp.shape
        subst hvp
        have HNP := hide (NmAt.new ((Sl.ok RRdn.ok).mono hslp (fun _ _ => rfl) (fun k hk => ⟨hk.2, by have := hk.1; have := HDK.out.lt; omega⟩)) hdkp.lt)
        have hex6 := hexp.alloc (.cells #[.slice A4 p.length c4] 24)
        have HNN := hide (HNN.out.ex hex6)
        have HNM := hide (HNM.out.ex hex6)
        have HNO := hide (HNO.out.ex hex6)
        have HEX := hide (HEX.out.trans hex6)
        have BP := hide hgp.bnd
        clear hgp hslp hdkp hexp hex6
        go_upto_region 8 with (fail)
        obtain ⟨wx, hwx⟩ : ∃ wx, wx = w9.alloc (.cells #[.slice A4 p.length c4] 24) := ⟨_, rfl⟩
        obtain ⟨gp, hgp⟩ : ∃ gp, gp = w9.heap.size := ⟨_, rfl⟩
        rw [← hwx] at HNN HNM HNO HNP HEX ⊢
        rw [← hgp] at HNP ⊢
        clear hwx hgp
        have NA := hide (NA.out.ex HEX.out hdA)
        have NBB := hide (NBB.out.ex HEX.out hdB)
        have HBX := hide (Ex.below HB3.out HB3.out.size HWD.out HEX.out)
        have ha1 := NA.out.facts.1
        have hb1 := NBB.out.facts.1
        obtain ⟨An, cn, hn1, -, -, hsn⟩ := HNN.out.sl
        obtain ⟨Am, cm, hm1, -, -, hsm⟩ := HNM.out.sl
        obtain ⟨Ao, co, ho1, -, -, hso⟩ := HNO.out.sl
        obtain ⟨Ap, cp, hp1, -, -, hsp⟩ := HNP.out.sl
        have VN := hide (show NmV wx (.slice An n.length cn) from ⟨n, An, cn, rfl, (Sl.ok RRdn.ok).lt hsn, BN.out.small (by omega)⟩)
        have VM := hide (show NmV wx (.slice Am m.length cm) from ⟨m, Am, cm, rfl, (Sl.ok RRdn.ok).lt hsm, BM.out.small (by omega)⟩)
        have VO := hide (show NmV wx (.slice Ao (m.take v9).length co) from ⟨m.take v9, Ao, co, rfl, (Sl.ok RRdn.ok).lt hso, BM.out.take.small (by omega)⟩)
        have VP := hide (show NmV wx (.slice Ap p.length cp) from ⟨p, Ap, cp, rfl, (Sl.ok RRdn.ok).lt hsp, BP.out.small (by omega)⟩)
        have VA := hide (show NmV wx (.slice Aa a.length ca) from ⟨a, Aa, ca, rfl, (Sl.ok RRdn.ok).below KA.out HBX.out, SMA.out⟩)
        have VB := hide (show NmV wx (.slice Ab b.length cb) from ⟨b, Ab, cb, rfl, (Sl.ok RRdn.ok).below KB.out HBX.out, SMB.out⟩)
        have hnm : matchN n m = true := (matchN_iff n m).2 HSP.out.same
        have hno : withinN n (m.take v9) = true := (withinN_iff n _).2 (HSP.out.same.pre.trans (NPre.take m v9))
        have MNM := hide (fun W (h5 : Below wx.heap.size wx W) => Match_v n m An Am cn cm true hnm W ((Sl.ok RRdn.ok).below ((Sl.ok RRdn.ok).lt hsn) h5) ((Sl.ok RRdn.ok).below ((Sl.ok RRdn.ok).lt hsm) h5) (BN.out.small (by omega)) (BM.out.small (by omega)))
        have WNO := hide (fun W (h5 : Below wx.heap.size wx W) => Within_v n (m.take v9) An Ao cn co true hno W ((Sl.ok RRdn.ok).below ((Sl.ok RRdn.ok).lt hsn) h5) ((Sl.ok RRdn.ok).below ((Sl.ok RRdn.ok).lt hso) h5) (BN.out.small (by omega)) (BM.out.take.small (by omega)))
        obtain ⟨no, hnoe⟩ : ∃ no, (m.take v9).length = no := ⟨_, rfl⟩
        rw [hnoe] at VO WNO ho1
        clear hsn hsm hso hsp hnm hno hnoe
        have HN1 := hide hn1
        have HM1 := hide hm1
        have HO1 := hide ho1
        go_wp2_with fail
        obtain ⟨W0, hW0⟩ : ∃ W0, W0 = wx.alloc (.cells #[.slice Aa a.length ca, .slice Ab b.length cb, .slice An n.length cn, .slice Am m.length cm, .slice An n.length cn, .slice Ao no co, .slice Ao no co, .slice An n.length cn, .slice An n.length cn, .slice Ap p.length cp, .slice Aa a.length ca, .slice An n.length cn] 41) := ⟨_, rfl⟩
        have hb0 : Below wx.heap.size wx W0 := by rw [hW0]; exact (Below.refl _ _).alloc (Nat.le_refl _) _
        have hz0 : W0.heap.size = wx.heap.size + 1 := by rw [hW0]; simp
        have hcells : ∀ k, k < 6 → ∃ x y : Value, W0.cell? ⟨wx.heap.size, k * 2, none⟩ = some x ∧ W0.cell? ⟨wx.heap.size, k * 2 + 1, none⟩ = some y ∧ NmV wx x ∧ NmV wx y := fun k hk => by
          rw [hW0, World.cell?_alloc_new, World.cell?_alloc_new]
          match k, hk with
          | 0, _ => exact ⟨_, _, rfl, rfl, VA.out, VB.out⟩
          | 1, _ => exact ⟨_, _, rfl, rfl, VN.out, VM.out⟩
          | 2, _ => exact ⟨_, _, rfl, rfl, VN.out, VO.out⟩
          | 3, _ => exact ⟨_, _, rfl, rfl, VO.out, VN.out⟩
          | 4, _ => exact ⟨_, _, rfl, rfl, VN.out, VP.out⟩
          | 5, _ => exact ⟨_, _, rfl, rfl, VA.out, VN.out⟩
        rw [← hW0]
        have HC := hide hcells
        have HB0 := hide hb0
        have HZ0 := hide hz0
        clear hcells hb0 hz0 hW0 ha1 hb1 hn1 hm1 ho1 hp1
        go_loopw [62] (fun i wr => ∃ k : Nat, k ≤ 6 ∧ i = .int .i64 k ∧ Below W0.heap.size W0 wr) (fun i _ => 6 - (intOf i).toNat)
        case atStart => exact ⟨0, by omega, rfl, Below.refl _ _⟩
        case round =>
          obtain ⟨k, hk, rfl, hb⟩ := hrel
          have hbx := HB0.out.trans (hb.mono HB0.out.size)
          have HBXr := hide hbx
          have HBW := hide (HBX.out.trans (hbx.mono HBX.out.size))
          by_cases hlt : k < 6
          · obtain ⟨x, y, hc1, hc2, ⟨nx, Ax, cx, rfl, hsx, hmx⟩, ⟨ny, Ay, cy, rfl, hsy, hmy⟩⟩ := HC.out k hlt
            have hc1' : wr.cell? ⟨wx.heap.size, k * 2, none⟩ = some (.slice Ax nx.length cx) := (hb.cell (p := ⟨wx.heap.size, k * 2, none⟩) (show wx.heap.size < W0.heap.size by have := HZ0.out; omega)).trans hc1
            have hc2' : wr.cell? ⟨wx.heap.size, k * 2 + 1, none⟩ = some (.slice Ay ny.length cy) := (hb.cell (p := ⟨wx.heap.size, k * 2 + 1, none⟩) (show wx.heap.size < W0.heap.size by have := HZ0.out; omega)).trans hc2
            have HB := hide hb
            clear hb hbx hc1 hc2
            go_wp2_with fail
            obtain ⟨wy, hwy⟩ : ∃ wy, wy = wr.alloc (.cells #[.slice Ax nx.length cx, .slice Ay ny.length cy] 41) := ⟨_, rfl⟩
            have hx0 : wy.cell? ⟨wr.heap.size, 0, none⟩ = some (.slice Ax nx.length cx) := by rw [hwy, World.cell?_alloc_new]; rfl
            have hx1 : wy.cell? ⟨wr.heap.size, 1, none⟩ = some (.slice Ay ny.length cy) := by rw [hwy, World.cell?_alloc_new]; rfl
            have hby : Below wr.heap.size wr wy := by rw [hwy]; exact (Below.refl _ _).alloc (Nat.le_refl _) _
            have hbb : Below wy.heap.size wy wy := Below.refl _ _
            have hx0d : wy.drew.cell? ⟨wr.heap.size, 0, none⟩ = some (.slice Ax nx.length cx) := hx0
            have hx1d : wy.drew.cell? ⟨wr.heap.size, 1, none⟩ = some (.slice Ay ny.length cy) := hx1
            have hbbd : Below wy.heap.size wy wy.drew := hbb.drew
            have HBY := hide (HB.out.trans (hby.mono HB.out.size))
            have hxy := HBXr.out.trans (hby.mono HBXr.out.size)
            have hsx' := (Sl.ok RRdn.ok).below hsx hxy
            have hsy' := (Sl.ok RRdn.ok).below hsy hxy
            obtain ⟨q1, hq1⟩ : ∃ q, matchN nx ny = q := ⟨_, rfl⟩
            obtain ⟨q2, hq2⟩ : ∃ q, withinN nx ny = q := ⟨_, rfl⟩
            have C1 := hide (fun W h1 h2 h3 => two_held (wx := wy) (g := wr.heap.size) (u1 := .slice Ax nx.length cx) (u2 := .slice Ay ny.length cy) (Match_v nx ny Ax Ay cx cy q1 hq1 W ((Sl.ok RRdn.ok).below hsx' h3) ((Sl.ok RRdn.ok).below hsy' h3) hmx hmy) h1 h2 h3)
            have C2 := hide (fun W h1 h2 h3 => two_held (wx := wy) (g := wr.heap.size) (u1 := .slice Ax nx.length cx) (u2 := .slice Ay ny.length cy) (rMatch_v2 nx ny Ax Ay cx cy q1 hq1 W ((Sl.ok RRdn.ok).below hsx' h3) ((Sl.ok RRdn.ok).below hsy' h3) hmx hmy) h1 h2 h3)
            have C3 := hide (fun W h1 h2 h3 => two_held (wx := wy) (g := wr.heap.size) (u1 := .slice Ax nx.length cx) (u2 := .slice Ay ny.length cy) (Within_v nx ny Ax Ay cx cy q2 hq2 W ((Sl.ok RRdn.ok).below hsx' h3) ((Sl.ok RRdn.ok).below hsy' h3) hmx hmy) h1 h2 h3)
            have C4 := hide (fun W h1 h2 h3 => two_held (wx := wy) (g := wr.heap.size) (u1 := .slice Ax nx.length cx) (u2 := .slice Ay ny.length cy) (rWithin_v2 nx ny Ax Ay cx cy q2 hq2 W ((Sl.ok RRdn.ok).below hsx' h3) ((Sl.ok RRdn.ok).below hsy' h3) hmx hmy) h1 h2 h3)
            have t1 : (q1 != q1) = false := by simp
            have t2 : (q2 != q2) = false := by simp
            rw [← hwy]
            clear hwy hc1' hc2' hby hxy hsx hsy hsx' hsy' hmx hmy hq1 hq2
            go_region_held3 (fun W => W.cell? ⟨wr.heap.size, 0, none⟩ = some (.slice Ax nx.length cx) ∧ W.cell? ⟨wr.heap.size, 1, none⟩ = some (.slice Ay ny.length cy) ∧ Below wy.heap.size wy W)
              (first | exact ⟨hs1, hs2, hs3⟩ | exact ⟨hx0, hx1, hbb⟩ | exact ⟨hx0, hx1, hbbd⟩)
              (first
                | (go_at_call 18; (first | (with_reducible refine (C1.out _ hs1 hs2 hs3).mono ?_) | (with_reducible refine (C1.out wy.drew hx0d hx1d hbbd).mono ?_) | fail); rintro e w9 ⟨rfl, hs1, hs2, hs3⟩)
                | (go_at_call 19; (first | (with_reducible refine (C2.out _ hs1 hs2 hs3).mono ?_) | (with_reducible refine (C2.out wy.drew hx0d hx1d hbbd).mono ?_) | fail); rintro e w9 ⟨rfl, hs1, hs2, hs3⟩)
                | (go_at_call 20; (first | (with_reducible refine (C3.out _ hs1 hs2 hs3).mono ?_) | (with_reducible refine (C3.out wy.drew hx0d hx1d hbbd).mono ?_) | fail); rintro e w9 ⟨rfl, hs1, hs2, hs3⟩)
                | (go_at_call 21; (first | (with_reducible refine (C4.out _ hs1 hs2 hs3).mono ?_) | (with_reducible refine (C4.out wy.drew hx0d hx1d hbbd).mono ?_) | fail); rintro e w9 ⟨rfl, hs1, hs2, hs3⟩)
                | fail)
            all_goals
              go_wp2_with fail
              go_roundw
              case rel => exact ⟨k + 1, by omega, by go_num, HBY.out.trans (hs3.mono HBY.out.size)⟩
              case measure => simp [intOf]; omega
          · clear hb hbx
            go_wp2_with fail
            refine (nawake_any _ (HMX.out.below HBW.out)).mono ?_
            rintro e w10 ⟨rfl, hb10⟩
            have hx10 := HBXr.out.trans (hb10.mono HBXr.out.size)
            have HX10 := hide hx10
            have n10 := cell_grows hx10 _ _ HN1.out
            have m10 := cell_grows hx10 _ _ HM1.out
            have HW10 := hide (HBW.out.trans (hb10.mono HBW.out.size))
            clear hb10 hx10
            go_wp2_with fail
            refine (MNM.out _ HX10.out).mono ?_
            rintro e w11 ⟨rfl, hb11⟩
            have hx11 := HX10.out.trans (hb11.mono HX10.out.size)
            have HX11 := hide hx11
            have n11 := cell_grows hx11 _ _ HN1.out
            have o11 := cell_grows hx11 _ _ HO1.out
            have HW11 := hide (HW10.out.trans (hb11.mono HW10.out.size))
            clear hb11 hx11 n10 m10
            go_wp2_with fail
            refine (WNO.out _ HX11.out).mono ?_
            rintro e w12 ⟨rfl, hb12⟩
            go_wp2_with fail
            go_ret
            exact ⟨rfl, HW11.out.trans (hb12.mono HW11.out.size)⟩
end Go.Proofs.YtepibepgfackkaaDoor
