/- The law OidUnder, its walk: Under agrees with the definition, and is reflexive and transitive. -/
import Derived.Test.YtbhcjohkbaaeiaaDoorOidQ
namespace Go.Proofs.YtbhcjohkbaaeiaaDoor
open Go.RowKit

theorem Under_v (a b : ByteArray) (ha : a.size ≤ 1000000) (hb : b.size ≤ 1000000) (v : Bool) (hv : underP a.data.toList b.data.toList = v) (w : World) (hmx : Mx w) :
    Calls Tryd.prog 15 #[.string a, .string b] w fun e w' => e = .returned (.bool v) ∧ Below w.heap.size w w' := hv ▸ Under_any a b ha hb w hmx
theorem rUnder_v (a b : ByteArray) (ha : a.size ≤ 1000000) (hb : b.size ≤ 1000000) (v : Bool) (hv : underP a.data.toList b.data.toList = v) (w : World) :
    Calls Tryd.prog 16 #[.string a, .string b] w fun e w' => e = .returned (.bool v) ∧ Below w.heap.size w w' := by
  rw [underP_eq] at hv
  exact hv ▸ rUnder_any a b ha hb w
theorem idA_take (l : List Nat) (m : Nat) (h : 1 ≤ m ∨ l = []) : idA (l.take m) <+: idA l := by
  cases l with
  | nil => rw [List.take_nil]; exact List.prefix_refl _
  | cons x r =>
    rcases h with h | h
    · obtain ⟨k, rfl⟩ : ∃ k, m = k + 1 := ⟨m - 1, by omega⟩
      rw [List.take_succ_cons]
      show (x % 3) :: (x / 3 % 40) :: ((r.take k).take 7).map shiftA <+: (x % 3) :: (x / 3 % 40) :: (r.take 7).map shiftA
      rw [List.cons_prefix_cons, List.cons_prefix_cons]
      refine ⟨rfl, rfl, ?_⟩
      rw [List.take_take, Nat.min_comm, ← List.take_take]
      exact (List.take_prefix _ _).map _
    · cases h
theorem under_id (l : List Int) (m : Nat) (h : 1 ≤ m ∨ l = []) : underP (idS l).data.toList (idS (l.take m)).data.toList = true := by
  rw [underP_eq, rUnderP, idS_valid, idS_valid]
  have hp : idL (l.take m) <+: idL l := by
    unfold idL
    rw [List.map_take]
    exact idA_take _ _ (by rcases h with h | h; exact .inl h; exact .inr (by rw [h]; rfl))
  rw [underO, if_neg (by have := hp.length_le; omega), prefL_iff]
  exact hp
theorem min3 {P : Program} (x y z : Int) (m : Nat) (h : min (min x y) z = (m : Int)) (ts : Array TypeId) (t : TypeId) (W : World) : (Builtin.min_ ts t #[.int .i64 x, .int .i64 y, .int .i64 z]).run P W = .ok (.int .i64 (m : Int)) W := by
  simp [Builtin.min_, Builtin.min2]
  split <;> split <;> omega
theorem sl_take {α : Type} {R : Rep α} {size : Nat} {w : World} {S : Nat → Prop} {l : List α} {A : Option Addr} {n c : Nat} (m : Nat) (hm : m ≤ l.length) (h : Sl R size w S l [.slice A n c]) : Sl R size w S (l.take m) [.slice A m c] := by
  have h2 : Sl R size w S (l.take m ++ l.drop m) [.slice A n c] := by rw [List.take_append_drop]; exact h
  have := h2.take_
  rwa [List.length_take, Nat.min_eq_left hm] at this


set_option maxRecDepth 100000 in
set_option maxHeartbeats 4000000 in
theorem OidUnder_any (l : List Int) (k j : Int) (s : ByteArray) (hsm : s.size ≤ maxLen) (A : Option Addr) (n c : Nat) (w : World) (hmx : Mx w) (hk : (Lit.int .u8 k).wf = true) (hj : (Lit.int .u8 j).wf = true)
    (h1 : Sl (RIntK .u32) 1 w (Lt w.heap.size) l [.slice A n c]) (b1 : ∀ x ∈ l, (Lit.int .u32 x).wf = true) :
    Calls Tryd.prog 4 #[.slice A n c, .int .u8 k, .int .u8 j, .string s] w fun e w' => e = .returned (.bool true) ∧ Below w.heap.size w w' := by
  obtain ⟨hn, hnc, hcm⟩ := h1.len_
  obtain rfl := hn
  unfold maxLen at hcm
  have hk' : 0 ≤ k ∧ k ≤ 255 := by simpa [Lit.wf, IntKind.min, IntKind.max, IntKind.signed, IntKind.bits] using hk
  have hj' : 0 ≤ j ∧ j ≤ 255 := by simpa [Lit.wf, IntKind.min, IntKind.max, IntKind.signed, IntKind.bits] using hj
  obtain ⟨hk0, hk1⟩ := hk'
  obtain ⟨hj0, hj1⟩ := hj'
  have K1 := hide h1
  have B1 := hide b1
  have HMX := hide hmx
  clear h1 b1 hmx hk hj
  unfold maxLen at hsm
  by_cases hs : s.size ≤ 200
  · by_cases hl8 : l.length ≤ 8
    · go_enter Tryd.func4, Tryd.ntmps4
      go_wp2_with fail
      refine (id_any l A l.length c _ K1.out B1.out).mono ?_
      rintro e w1 ⟨rfl, hb1⟩
      rw [show (⟨(showL (idL l)).toArray⟩ : ByteArray) = idS l from rfl]
      have HK2 := hide ((Sl.ok (RIntK.ok .u32)).mono K1.out (below_keeps hb1) (fun k hk => Nat.lt_of_lt_of_le hk hb1.size))
      have HB1 := hide hb1
      clear hb1
      go_wp2_with fail
      obtain ⟨m1, hm1⟩ : ∃ m1, (min (l.length : Int) (1 + k % 8)).toNat = m1 := ⟨_, rfl⟩
      obtain ⟨m2, hm2⟩ : ∃ m2, (min (min (l.length : Int) (1 + k % 8)) (1 + j % 8)).toNat = m2 := ⟨_, rfl⟩
      have hmin3 := fun ts t W => min3 (P := Tryd.prog) (l.length : Int) (1 + k % 8) (1 + j % 8) m2 (by omega) ts t W
      have hm1l : m1 ≤ l.length := by omega
      have hm2l : m2 ≤ m1 := by omega
      have hm1p : 1 ≤ m1 ∨ l = [] := by
        rcases Nat.eq_zero_or_pos l.length with h | h
        · exact .inr (List.eq_nil_of_length_eq_zero h)
        · exact .inl (by omega)
      have hm2p : 1 ≤ m2 ∨ l = [] := by
        rcases Nat.eq_zero_or_pos l.length with h | h
        · exact .inr (List.eq_nil_of_length_eq_zero h)
        · exact .inl (by omega)
      have HM1 := hide hm1p
      have HM2 := hide hm2p
      rw [hm1]
      have HMM1 := hide hm1
      have hm2i : (0 : Int) ≤ (m2 : Int) ∧ (m2 : Int) ≤ (l.length : Int) := by omega
      obtain ⟨hm2i, hm2j⟩ := hm2i
      clear hm1 hm2 hm1p hm2p
      refine (id_any (l.take m1) A m1 c _ (sl_take m1 hm1l HK2.out) (fun x hx => B1.out x (List.mem_of_mem_take hx))).mono ?_
      rintro e w2 ⟨rfl, hb2⟩
      rw [show (⟨(showL (idL (l.take m1))).toArray⟩ : ByteArray) = idS (l.take m1) from rfl]
      have hb2' := HB1.out.trans (hb2.mono HB1.out.size)
      have HK3 := hide ((Sl.ok (RIntK.ok .u32)).mono K1.out (below_keeps hb2') (fun k hk => Nat.lt_of_lt_of_le hk hb2'.size))
      have HB2 := hide hb2'
      clear hb2 hb2'
      go_wp2_with fail
      clear hmin3
      refine (id_any (l.take m2) A m2 c _ (sl_take m2 (by omega) HK3.out) (fun x hx => B1.out x (List.mem_of_mem_take hx))).mono ?_
      rintro e w3 ⟨rfl, hb3⟩
      rw [show (⟨(showL (idL (l.take m2))).toArray⟩ : ByteArray) = idS (l.take m2) from rfl]
      have HB3 := hide (HB2.out.trans (hb3.mono HB2.out.size))
      clear hb3
      have hu1 := under_id l m1 HM1.out
      have hu2 := under_id (l.take m1) m2 (by
        rcases HM2.out with h | h
        · exact .inl h
        · exact .inr (by rw [h]; simp))
      rw [List.take_take, Nat.min_eq_left hm2l] at hu2
      have hu3 := under_id l m2 HM2.out
      have hu0 := under_id l l.length (by
        rcases Nat.eq_zero_or_pos l.length with h | h
        · exact .inr (List.eq_nil_of_length_eq_zero h)
        · exact .inl h)
      rw [List.take_length] at hu0
      have ha1 := idS_size l
      have ha2 := idS_size (l.take m1)
      have ha3 := idS_size (l.take m2)
      obtain ⟨a, ha⟩ : ∃ a, idS l = a := ⟨_, rfl⟩
      obtain ⟨b, hb⟩ : ∃ b, idS (l.take m1) = b := ⟨_, rfl⟩
      obtain ⟨d, hd⟩ : ∃ d, idS (l.take m2) = d := ⟨_, rfl⟩
      rw [ha] at ha1 hu0 hu1 hu3 ⊢
      rw [hb] at ha2 hu1 hu2 ⊢
      rw [hd] at ha3 hu2 hu3 ⊢
      have H0 := hide hu0
      have H1 := hide hu1
      have H2 := hide hu2
      have H3 := hide hu3
      clear hu0 hu1 hu2 hu3 ha hb hd
      have hz : (⟨#[48]⟩ : ByteArray).size = 1 := rfl
      have haz : (a ++ (⟨#[48]⟩ : ByteArray)).size ≤ 133 := by rw [ba_size]; omega
      clear hz
      go_wp2_with fail
      obtain ⟨az, haz2⟩ : ∃ az, az = a ++ (⟨#[48]⟩ : ByteArray) := ⟨_, rfl⟩
      try rw [← haz2]
      rw [← haz2] at haz
      clear haz2
      obtain ⟨W0, hW0⟩ : ∃ W0, W0 = w3.alloc (.cells #[.string a, .string b, .string b, .string a, .string b, .string d, .string d, .string b, .string a, .string s, .string s, .string a, .string a, .string az] 33) := ⟨_, rfl⟩
      have hcells : ∀ k, k < 7 → ∃ p q : ByteArray, p.size ≤ 1000 ∧ q.size ≤ 1000 ∧ W0.cell? ⟨w3.heap.size, k * 2, none⟩ = some (.string p) ∧ W0.cell? ⟨w3.heap.size, k * 2 + 1, none⟩ = some (.string q) := fun k hk => by
        rw [hW0, World.cell?_alloc_new, World.cell?_alloc_new]
        match k, hk with
        | 0, _ => exact ⟨_, _, by omega, by omega, rfl, rfl⟩
        | 1, _ => exact ⟨_, _, by omega, by omega, rfl, rfl⟩
        | 2, _ => exact ⟨_, _, by omega, by omega, rfl, rfl⟩
        | 3, _ => exact ⟨_, _, by omega, by omega, rfl, rfl⟩
        | 4, _ => exact ⟨_, _, by omega, by omega, rfl, rfl⟩
        | 5, _ => exact ⟨_, _, by omega, by omega, rfl, rfl⟩
        | 6, _ => exact ⟨_, _, by omega, by omega, rfl, rfl⟩
      have hb0 : Below w.heap.size w W0 := by rw [hW0]; exact HB3.out.alloc HB3.out.size _
      have hsz0 : W0.heap.size = w3.heap.size + 1 := by rw [hW0]; simp
      rw [← hW0]
      have HC := hide hcells
      have HB0 := hide hb0
      have HSZ := hide hsz0
      clear hcells hb0 hW0 hsz0
      go_loopw [73] (fun i wr => ∃ k : Nat, k ≤ 7 ∧ i = .int .i64 k ∧ Below W0.heap.size W0 wr) (fun i _ => 7 - (intOf i).toNat)
      case atStart => exact ⟨0, by omega, rfl, Below.refl _ _⟩
      case round =>
        obtain ⟨k, hk, rfl, hb⟩ := hrel
        have hbw : Below w.heap.size w wr := HB0.out.trans (hb.mono HB0.out.size)
        have HBW := hide hbw
        have HMXr := hide (HMX.out.below hbw)
        by_cases hlt : k < 7
        · obtain ⟨p, q, hp, hq, hc1, hc2⟩ := HC.out k hlt
          have hc1' : wr.cell? ⟨w3.heap.size, k * 2, none⟩ = some (.string p) := (hb.cell (show w3.heap.size < W0.heap.size by have := HSZ.out; omega)).trans hc1
          have hc2' : wr.cell? ⟨w3.heap.size, k * 2 + 1, none⟩ = some (.string q) := (hb.cell (show w3.heap.size < W0.heap.size by have := HSZ.out; omega)).trans hc2
          have HB := hide hb
          clear hb hbw hc1 hc2
          go_wp2_with fail
          obtain ⟨wx, hwx⟩ : ∃ wx, wx = wr.alloc (.cells #[.string p, .string q] 33) := ⟨_, rfl⟩
          have hx0 : wx.cell? ⟨wr.heap.size, 0, none⟩ = some (.string p) := by rw [hwx, World.cell?_alloc_new]; rfl
          have hx1 : wx.cell? ⟨wr.heap.size, 1, none⟩ = some (.string q) := by rw [hwx, World.cell?_alloc_new]; rfl
          have hbx : Below wr.heap.size wr wx := by rw [hwx]; exact (Below.refl _ _).alloc (Nat.le_refl _) _
          have hmx : Mx wx := HMXr.out.below hbx
          have HBX := hide (HB.out.trans (hbx.mono HB.out.size))
          have hbb : Below wx.heap.size wx wx := Below.refl _ _
          have hmxd : Mx wx.drew := hmx
          obtain ⟨v, hv⟩ : ∃ v, underP p.data.toList q.data.toList = v := ⟨_, rfl⟩
          have LC := hide (fun W h0 h1 h2 h3 => pairC (g := wr.heap.size) (p := p) (q := q) (wx := wx) (Under_v p q (by omega) (by omega) v hv W h2) h0 h1 h2 h3)
          have RC := hide (fun W h0 h1 h2 h3 => pairC (g := wr.heap.size) (p := p) (q := q) (wx := wx) (rUnder_v p q (by omega) (by omega) v hv W) h0 h1 h2 h3)
          have htt : (v != v) = false := by cases v <;> rfl
          rw [← hwx]
          clear hwx hc1' hc2' hbx hv
          go_region_held3 (fun W => W.cell? ⟨wr.heap.size, 0, none⟩ = some (.string p) ∧ W.cell? ⟨wr.heap.size, 1, none⟩ = some (.string q) ∧ Mx W ∧ Below wx.heap.size wx W)
            (first | exact ⟨hs1, hs2, hs3, hs4⟩ | exact ⟨hx0, hx1, hmx, hbb⟩ | exact ⟨hx0, hx1, hmxd, hbb.drew⟩)
            (first
              | (go_at_call 15; (first | refine (LC.out _ hs1 hs2 hs3 hs4).mono ?_ | refine (LC.out wx.drew hx0 hx1 hmxd hbb.drew).mono ?_); rintro e w9 ⟨rfl, hs1, hs2, hs3, hs4⟩)
              | (go_at_call 16; (first | refine (RC.out _ hs1 hs2 hs3 hs4).mono ?_ | refine (RC.out wx.drew hx0 hx1 hmxd hbb.drew).mono ?_); rintro e w9 ⟨rfl, hs1, hs2, hs3, hs4⟩))
          go_wp2_with fail
          go_roundw
          case rel => exact ⟨k + 1, by omega, by go_num, HBX.out.trans (hs4.mono HBX.out.size)⟩
          case measure => simp [intOf]; omega
        · have HM := HMXr
          have HB := HBW
          clear hb hbw
          go_wp2_with fail
          refine (oawake_any _ HM.out).mono ?_
          rintro e w9 ⟨rfl, hb9⟩
          have HM := hide (HM.out.below hb9)
          have HB := hide (HB.out.trans (hb9.mono HB.out.size))
          clear hb9
          go_wp2_with fail
          refine (Under_v a a (by omega) (by omega) true H0.out _ HM.out).mono ?_
          rintro e w9 ⟨rfl, hb9⟩
          have HM := hide (HM.out.below hb9)
          have HB := hide (HB.out.trans (hb9.mono HB.out.size))
          clear hb9
          go_wp2_with fail
          refine (Under_v a b (by omega) (by omega) true H1.out _ HM.out).mono ?_
          rintro e w9 ⟨rfl, hb9⟩
          have HM := hide (HM.out.below hb9)
          have HB := hide (HB.out.trans (hb9.mono HB.out.size))
          clear hb9
          go_wp2_with fail
          refine (Under_v b d (by omega) (by omega) true H2.out _ HM.out).mono ?_
          rintro e w9 ⟨rfl, hb9⟩
          have HM := hide (HM.out.below hb9)
          have HB := hide (HB.out.trans (hb9.mono HB.out.size))
          clear hb9
          go_wp2_with fail
          refine (Under_v a d (by omega) (by omega) true H3.out _ HM.out).mono ?_
          rintro e w9 ⟨rfl, hb9⟩
          have HM := hide (HM.out.below hb9)
          have HB := hide (HB.out.trans (hb9.mono HB.out.size))
          clear hb9
          go_wp2_with fail
          go_ret
          exact ⟨rfl, HB.out⟩
    · go_enter Tryd.func4, Tryd.ntmps4
      go_wp2_with fail
      refine (oawake_any _ HMX.out).mono ?_
      rintro e w3 ⟨rfl, hb3⟩
      go_wp2_with fail
      go_ret
      exact ⟨rfl, hb3⟩
  · go_enter Tryd.func4, Tryd.ntmps4
    go_wp2_with fail
    refine (oawake_any _ HMX.out).mono ?_
    rintro e w3 ⟨rfl, hb3⟩
    go_wp2_with fail
    go_ret
    exact ⟨rfl, hb3⟩
end Go.Proofs.YtbhcjohkbaaeiaaDoor
