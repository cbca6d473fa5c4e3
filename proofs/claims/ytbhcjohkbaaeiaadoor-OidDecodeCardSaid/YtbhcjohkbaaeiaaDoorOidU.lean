/- The laws OidDecode and OidBack, their walks. -/
import Derived.Test.YtbhcjohkbaaeiaaDoorOidT
import Derived.Test.YtbhcjohkbaaeiaaDoorOidO
import Derived.Test.YtbhcjohkbaaeiaaDoorOidP
import Derived.Test.YtbhcjohkbaaeiaaDoorOidQ
import Derived.Test.YtbhcjohkbaaeiaaDoorLib2
namespace Go.Proofs.YtbhcjohkbaaeiaaDoor
open Go.RowKit

def obTab : List UInt8 := [0, 1, 39, 40, 80, 119, 127, 128, 129, 135, 136, 143, 255]
theorem ob_get (m : Nat) (h : m < 13) : (obTab.map fun b => Value.int .u8 (b.toNat : Int))[m]? = some (.int .u8 ((obTab.getD m 0).toNat : Int)) := by
  rw [List.getElem?_map, List.getElem?_eq_getElem (by exact h)]
  simp [List.getD, List.getElem?_eq_getElem (show m < obTab.length from h)]
  rfl


set_option maxRecDepth 100000 in
set_option maxHeartbeats 4000000 in
theorem OidDecode_any (s : ByteArray) (hsm : s.size ≤ maxLen) (l : List UInt8) (A : Option Addr) (n c : Nat) (w : World) (hmx : Mx w) (htb : Tb w) (h : Sl RByte 1 w (Lt w.heap.size) l [.slice A n c]) :
    Calls Tryd.prog 6 #[.string s, .slice A n c] w fun e w' => e = .returned (.bool true) ∧ Below w.heap.size w w' := by
  obtain ⟨hn, hnc, hcm⟩ := h.len_
  obtain rfl := hn
  have K := hide h
  have HMX := hide hmx
  have HTB := hide htb
  clear h hmx htb
  unfold maxLen at hcm hsm
  by_cases hs1 : s.size ≤ 100
  · by_cases hs : l.length ≤ 100
    · go_enter Tryd.func6, Tryd.ntmps6
      go_wp2_with (at_make; refine wpList_make_bytes rfl (.tmp 23) (.tmp 23) 22 5 rfl Tryd.underlying22 info_u8 l.length rfl rfl (by omega) ?_; intro g w1 hg1 hg2 hb1 hby)
      go_loopw [27] (fun i wr => ∃ (k : Nat) (cur : List UInt8), k ≤ l.length ∧ cur.length = l.length ∧ i = .int .i64 k ∧ BytesAt wr 5 g cur ∧ g < wr.heap.size ∧ Below w.heap.size w wr) (fun i _ => l.length - (intOf i).toNat)
      case atStart => exact ⟨0, _, Nat.zero_le _, by simp, rfl, hby, hg2, hb1⟩
      case round =>
        clear hby hg2 hb1
        obtain ⟨k, cur, hk, hcl, rfl, hby, hg2, hb⟩ := hrel
        have HCL := hide hcl
        clear hcl
        by_cases hlt : k < l.length
        · obtain ⟨b, off, xs, hA, hbS, hx, hcell⟩ := K.out.at_ hlt
          obtain ⟨d, hd⟩ : ∃ d, d = l[k] := ⟨_, rfl⟩
          rw [← hd] at hx
          have hc0 := hcell 0 (.int .u8 (d.toNat : Int)) (by rw [show xs = byteC d from hx]; rfl)
          rw [Nat.mul_one, Nat.add_zero] at hc0
          have hbS' : b < w.heap.size := hbS
          have hsz := hb.size
          have hca : ∀ ob, (wr.alloc ob).cell? ⟨b, off + k, none⟩ = some (.int .u8 (d.toNat : Int)) := fun ob => by
            rw [World.cell?_alloc_lt _ _ _ (by show b < _; omega), hb.cell hbS', hc0]
          have hdb := byte_lt d
          obtain ⟨m, hm⟩ : ∃ m : Nat, m = d.toNat % 13 := ⟨_, rfl⟩
          have hm32 : (m : Int) < 13 := by omega
          have hm0 : (0 : Int) ≤ (m : Int) := by omega
          have hmi : (d.toNat : Int) % 13 = (m : Int) := by omega
          have hpg := ob_get m (by omega)
          obtain ⟨y, hy⟩ : ∃ y : UInt8, y = obTab.getD m 0 := ⟨_, rfl⟩
          rw [← hy] at hpg
          have hpl2 : (([.int .u8 0, .int .u8 1, .int .u8 39, .int .u8 40, .int .u8 80, .int .u8 119, .int .u8 127, .int .u8 128, .int .u8 129, .int .u8 135, .int .u8 136, .int .u8 143, .int .u8 255] : List Value))[m]? = some (.int .u8 (y.toNat : Int)) := hpg
          have hpl3 : (([.int .u8 0, .int .u8 1, .int .u8 39, .int .u8 40, .int .u8 80, .int .u8 119, .int .u8 127, .int .u8 128, .int .u8 129, .int .u8 135, .int .u8 136, .int .u8 143, .int .u8 255] : List Value)).toArray[m]? = some (.int .u8 (y.toNat : Int)) := by rw [List.getElem?_toArray]; exact hpg
          have hkc : k < cur.length := by rw [HCL.out]; exact hlt
          have hcur : ∀ ob, ∃ u, (wr.alloc ob).cell? ⟨g, k, none⟩ = some u := fun ob => ⟨_, by rw [World.cell?_alloc_lt _ _ _ (by exact hg2)]; exact hby.cell hkc⟩
          have hfr : ∀ ob, (wr.alloc ob).frozen? ⟨g, k, none⟩ = false := fun ob => by rw [World.frozen?_alloc_old _ _ _ (by show g ≠ _; omega)]; exact hby.free hkc
          have hcc : ∀ ob, (wr.alloc ob).cell? ⟨g, k, none⟩ = some (.int .u8 (cur[k].toNat : Int)) := fun ob => by rw [World.cell?_alloc_lt _ _ _ (by exact hg2)]; exact hby.cell hkc
          have HSET := hide (fun ob => (hby.set_ hkc y).keep (Below.heap_alloc _ ob g (by rw [World.size_setCell]; exact hg2)))
          have HBL := hide (fun ob => below_alloc (Below.setCell hb (p := ⟨g, k, none⟩) hg1 (.int .u8 (y.toNat : Int))) (by rw [World.size_setCell]; exact hsz) ob)
          subst hA
          clear hpg hcell hx hd hy hm hc0 hby hcur hb
          go_wp2_with fail
          go_roundw
          case rel => exact ⟨k + 1, cur.set k y, by omega, by rw [List.length_set]; exact HCL.out, by go_num, HSET.out _, by simp; omega, HBL.out _⟩
          case measure => simp [intOf]; omega
        · have hsl := hby.sl (c := l.length) (by rw [HCL.out]; omega) (by unfold maxLen; omega)
          rw [HCL.out] at hsl
          have HK := hide (run_bts_str (P := Tryd.prog) wr 22 9 5 Tryd.underlying22 Tryd.underlying5 Tryd.underlying9 _ _ _ hsl)
          have hcs : (⟨cur.toArray⟩ : ByteArray).size ≤ 100 := by show cur.length ≤ _; rw [HCL.out]; omega
          obtain ⟨x, hx⟩ : ∃ x : ByteArray, x = ⟨cur.toArray⟩ := ⟨_, rfl⟩
          rw [← hx] at HK hcs
          have hk1 := HK.out
          have he1 : (⟨#[1]⟩ : ByteArray).size = 1 := rfl
          have hxs : (x ++ ⟨#[1]⟩).size ≤ 101 := by rw [ba_size]; omega
          clear hsl hx hby he1
          have HB := hide hb
          have hsz := hb.size
          clear hb
          go_wp2_with fail
          clear hk1
          obtain ⟨x1, hx1⟩ : ∃ x1, x1 = x ++ (⟨#[1]⟩ : ByteArray) := ⟨_, rfl⟩
          try rw [← hx1]
          rw [← hx1] at hxs
          clear hx1
          obtain ⟨W0, hW0⟩ : ∃ W0, W0 = wr.alloc (.cells #[.string s, .string x, .string x1] 9) := ⟨_, rfl⟩
          have hcells : ∀ k, k < 3 → ∃ y : ByteArray, y.size ≤ 1000 ∧ W0.cell? ⟨wr.heap.size, k, none⟩ = some (.string y) := fun k hk => by
            rw [hW0, World.cell?_alloc_new]
            match k, hk with
            | 0, _ => exact ⟨_, by omega, rfl⟩
            | 1, _ => exact ⟨_, by omega, rfl⟩
            | 2, _ => exact ⟨_, by omega, rfl⟩
          have hb0 : Below w.heap.size w W0 := by rw [hW0]; exact HB.out.alloc HB.out.size _
          have hsz0 : W0.heap.size = wr.heap.size + 1 := by rw [hW0]; simp
          rw [← hW0]
          have HC := hide hcells
          have HB0 := hide hb0
          have HSZ := hide hsz0
          obtain ⟨gb, hgb⟩ : ∃ gb, gb = wr.heap.size := ⟨_, rfl⟩
          rw [← hgb] at HC HSZ ⊢
          clear hcells hb0 hW0 hsz0 hgb
          go_loopw [50] (fun i wi => ∃ k : Nat, k ≤ 3 ∧ i = .int .i64 k ∧ Below W0.heap.size W0 wi) (fun i _ => 3 - (intOf i).toNat)
          case atStart => exact ⟨0, by omega, rfl, Below.refl _ _⟩
          case round =>
            obtain ⟨k2, hk2, rfl, hb⟩ := hrel
            have hbw := HB0.out.trans (hb.mono HB0.out.size)
            have HBW := hide hbw
            have HMXr := hide (HMX.out.below hbw)
            have HTBr := hide (HTB.out.below hbw)
            by_cases hlt : k2 < 3
            · obtain ⟨y, hys, hcell0⟩ := HC.out k2 hlt
              have hcell := (hb.cell (show gb < W0.heap.size by have := HSZ.out; omega)).trans hcell0
              have HB2 := hide hb
              have hy6 : y.size ≤ 1000000 := by omega
              obtain ⟨o, ho⟩ : ∃ o, decP y.data.toList = o := ⟨_, rfl⟩
              obtain ⟨B, m, hBm⟩ := encR_shape o
              have HE := hide (show encR (decP y.data.toList) = .tuple #[.string B, .int .i64 m] by rw [ho]; exact hBm)
              clear hcell0 hb hbw ho hBm
              go_wp2_with fail
              refine (Decode_any y hy6 _ HTBr.out).mono ?_
              rintro e w3 ⟨rfl, hb3⟩
              rw [HE.out]
              have HB3 := hide hb3
              clear hcell hb3
              go_wp2_with fail
              refine (rDecode_any y hy6 _).mono ?_
              rintro e w4 ⟨rfl, hb4⟩
              rw [HE.out]
              have HB4 := hide (HB3.out.trans (hb4.mono HB3.out.size))
              clear hb4
              go_wp2_with fail
              go_roundw
              case rel => exact ⟨k2 + 1, by omega, by go_num, HB2.out.trans (HB4.out.mono HB2.out.size)⟩
              case measure => simp [intOf]; omega
            · clear hb hbw
              go_wp2_with fail
              refine (oawake_any _ HMXr.out).mono ?_
              rintro e w3 ⟨rfl, hb3⟩
              go_wp2_with fail
              go_ret
              exact ⟨rfl, HBW.out.trans (hb3.mono HBW.out.size)⟩
    · go_enter Tryd.func6, Tryd.ntmps6
      go_wp2_with fail
      refine (oawake_any _ HMX.out).mono ?_
      rintro e w3 ⟨rfl, hb3⟩
      go_wp2_with fail
      go_ret
      exact ⟨rfl, hb3⟩
  · go_enter Tryd.func6, Tryd.ntmps6
    go_wp2_with fail
    refine (oawake_any _ HMX.out).mono ?_
    rintro e w3 ⟨rfl, hb3⟩
    go_wp2_with fail
    go_ret
    exact ⟨rfl, hb3⟩

theorem decP_size {c z : List UInt8} (h : decP c = some z) : z.length ≤ 1000 := by
  rw [decP_fin] at h
  obtain ⟨l, h1, h2⟩ := Option.bind_eq_some_iff.1 h
  unfold finL at h2
  split at h2
  · rename_i hv
    cases h2
    obtain ⟨_, h12, h3, _⟩ := hv.2
    have := showL_le (expandL l) (fun n hn => by have := h3 n hn; omega)
    omega
  · cases h2
theorem encL_size {L : List Nat} (h : ValidA L) : (encL L).length ≤ 1000 := by
  obtain ⟨h1, h12, h3, h4⟩ := h
  have hr := rootB_le h4
  have hf : ∀ r : List Nat, (∀ n ∈ r, n ≤ 2147483647) → (r.flatMap putL).length ≤ 6 * r.length := by
    intro r
    induction r with
    | nil => intro _; simp
    | cons n r ih =>
      intro h
      have := ih (fun m hm => h m (by simp [hm]))
      have := putL_len n (by have := h n (by simp); omega)
      rw [List.flatMap_cons, List.length_append, List.length_cons]
      omega
  have hb : L.getD 1 0 ≤ 2147483647 := by
    rw [List.getD, List.getElem?_eq_getElem (show 1 < L.length by omega)]
    exact h3 _ (List.getElem_mem _)
  have := hf (L.drop 2) (fun n hn => h3 n (List.mem_of_mem_drop hn))
  have := putL_len (40 * L.getD 0 0 + L.getD 1 0) (by omega)
  rw [encL, List.length_append]
  rw [List.length_drop] at *
  omega

set_option maxHeartbeats 4000000 in
theorem OidBack_any (l : List Int) (c : ByteArray) (hcm : c.size ≤ maxLen) (A : Option Addr) (n cp : Nat) (w : World) (hmx : Mx w) (htb : Tb w)
    (h1 : Sl (RIntK .u32) 1 w (Lt w.heap.size) l [.slice A n cp]) (b1 : ∀ x ∈ l, (Lit.int .u32 x).wf = true) :
    Calls Tryd.prog 7 #[.slice A n cp, .string c] w fun e w' => e = .returned (.bool true) ∧ Below w.heap.size w w' := by
  have K1 := hide h1
  have B1 := hide b1
  have HMX := hide hmx
  have HTB := hide htb
  clear h1 b1 hmx htb
  unfold maxLen at hcm
  by_cases hs : c.size ≤ 100
  · go_enter Tryd.func7, Tryd.ntmps7
    go_wp2_with fail
    refine (id_any l A n cp _ K1.out B1.out).mono ?_
    rintro e w1 ⟨rfl, hb1⟩
    rw [show (⟨(showL (idL l)).toArray⟩ : ByteArray) = idS l from rfl]
    have HB := hide hb1
    clear hb1
    have hval : ValidA (idL l) := valid_id _
    have HE := hide (show encR (encP (idS l).data.toList) = .tuple #[.string ⟨(encL (idL l)).toArray⟩, .int .i64 0] by rw [encP, idS_valid]; rfl)
    have HD := hide (show encR (decP (⟨(encL (idL l)).toArray⟩ : ByteArray).data.toList) = .tuple #[.string (idS l), .int .i64 0] by
      rw [show (⟨(encL (idL l)).toArray⟩ : ByteArray).data.toList = encL (idL l) from rfl, decP_enc hval]; rfl)
    have hes : (⟨(encL (idL l)).toArray⟩ : ByteArray).size ≤ 1000 := encL_size hval
    have has := idS_size l
    obtain ⟨a, ha⟩ : ∃ a, idS l = a := ⟨_, rfl⟩
    obtain ⟨b, hb⟩ : ∃ b, (⟨(encL (idL l)).toArray⟩ : ByteArray) = b := ⟨_, rfl⟩
    rw [ha] at HE HD has ⊢
    rw [hb] at HE HD hes
    clear ha hb hval
    go_wp2_with fail
    refine (Encode_any a (by omega) _ (HMX.out.below HB.out)).mono ?_
    rintro e w2 ⟨rfl, hb2⟩
    rw [HE.out]
    have HB := hide (HB.out.trans (hb2.mono HB.out.size))
    clear hb2
    go_wp2_with fail
    refine (Decode_any b (by omega) _ (HTB.out.below HB.out)).mono ?_
    rintro e w3 ⟨rfl, hb3⟩
    rw [HD.out]
    have HB := hide (HB.out.trans (hb3.mono HB.out.size))
    clear hb3
    go_wp2_with fail
    refine (Decode_any c (by omega) _ (HTB.out.below HB.out)).mono ?_
    rintro e w4 ⟨rfl, hb4⟩
    have HB := hide (HB.out.trans (hb4.mono HB.out.size))
    clear hb4
    obtain ⟨o, ho⟩ : ∃ o, decP c.data.toList = o := ⟨_, rfl⟩
    rw [ho]
    have HO := hide ho
    clear ho
    cases o with
    | none =>
      rw [show encR none = .tuple #[.string ⟨#[]⟩, .int .i64 11] from rfl]
      go_wp2_with fail
      refine (oawake_any _ (HMX.out.below HB.out)).mono ?_
      rintro e w5 ⟨rfl, hb5⟩
      go_wp2_with fail
      go_ret
      exact ⟨rfl, HB.out.trans (hb5.mono HB.out.size)⟩
    | some z =>
      have hz := enc_decP HO.out
      have hzs := decP_size HO.out
      rw [show encR (some z) = .tuple #[.string ⟨z.toArray⟩, .int .i64 0] from rfl]
      obtain ⟨y, hy⟩ : ∃ y : ByteArray, y = ⟨z.toArray⟩ := ⟨_, rfl⟩
      have hys : y.size ≤ 1000 := by rw [hy]; exact hzs
      have HV := hide (show validB y.data.toList = true by rw [hy]; exact hz.1)
      have HC := hide (show encR (encP y.data.toList) = .tuple #[.string c, .int .i64 0] by rw [hy]; rw [show (⟨z.toArray⟩ : ByteArray).data.toList = z from rfl, hz.2]; rfl)
      rw [← hy]
      clear hz hzs hy
      go_wp2_with fail
      refine (Encode_any y (by omega) _ (HMX.out.below HB.out)).mono ?_
      rintro e w5 ⟨rfl, hb5⟩
      rw [HC.out]
      have HB := hide (HB.out.trans (hb5.mono HB.out.size))
      clear hb5
      go_wp2_with fail
      refine (Valid_any y (by omega) _ (HMX.out.below HB.out)).mono ?_
      rintro e w6 ⟨rfl, hb6⟩
      rw [HV.out]
      have HB := hide (HB.out.trans (hb6.mono HB.out.size))
      clear hb6
      go_wp2_with fail
      refine (oawake_any _ (HMX.out.below HB.out)).mono ?_
      rintro e w7 ⟨rfl, hb7⟩
      go_wp2_with fail
      go_ret
      exact ⟨rfl, HB.out.trans (hb7.mono HB.out.size)⟩
  · go_enter Tryd.func7, Tryd.ntmps7
    go_wp2_with fail
    refine (oawake_any _ HMX.out).mono ?_
    rintro e w3 ⟨rfl, hb3⟩
    go_wp2_with fail
    go_ret
    exact ⟨rfl, hb3⟩
end Go.Proofs.YtbhcjohkbaaeiaaDoor
