/- The reference of package oid: EncodeOID. -/
import Derived.Test.YtbafpgdmnkkclaaDoorOidH
import Derived.Test.YtbafpgdmnkkclaaDoorLib3
import Derived.Deep.RegionLaw
namespace Go.Proofs.YtbafpgdmnkkclaaDoor
open Go.RowKit

/-- a slice of one element that the call has just built -/
theorem Own.lit {α : Type} {R : Rep α} {e : TypeId} {w : World} {base : Nat} (hbase : base ≤ w.heap.size) (x : α) (v : Value) (h : ∀ w', R w' No x [v]) :
    Own R 1 e (w.alloc (.cells #[v] e)) base No (.slice (some ⟨w.heap.size, 0, none⟩) 1 1) [x] := by
  refine ⟨[v], ⟨rfl, .inr ⟨w.heap.size, 1, #[v], rfl, hbase, heap_alloc_new w _, Nat.le_refl _, by simp [maxLen], rfl, rfl⟩⟩, fun g _ hg => hg.elim, fun i y hy => ?_⟩
  match i, hy with
  | 0, hy =>
    simp at hy; subst hy
    exact ⟨[v], h _, fun j u hu => by simpa using hu⟩
theorem Own.litNat {e : TypeId} {w : World} {base : Nat} (hbase : base ≤ w.heap.size) (n : Nat) : Own RNat 1 e (w.alloc (.cells #[.int .i64 (n : Int)] e)) base No (.slice (some ⟨w.heap.size, 0, none⟩) 1 1) [n] :=
  Own.lit hbase n _ fun _ => rfl
theorem Own.litByte {e : TypeId} {w : World} {base : Nat} (hbase : base ≤ w.heap.size) (c : UInt8) : Own RByte 1 e (w.alloc (.cells #[.int .u8 (c.toNat : Int)] e)) base No (.slice (some ⟨w.heap.size, 0, none⟩) 1 1) [c] :=
  Own.lit hbase c _ fun _ => rfl
/-- bytes that the call built, as a block -/
theorem Own.bytes {e : TypeId} {w : World} {base : Nat} {S : Nat → Prop} {v : Value} {l : List UInt8} (h : Own RByte 1 e w base S v l) (h0 : 0 < l.length) :
    ∃ g cap, v = .slice (some ⟨g, 0, none⟩) l.length cap ∧ base ≤ g ∧ g < w.heap.size ∧ l.length ≤ cap ∧ cap ≤ maxLen ∧ BytesAt w e g l := by
  obtain ⟨xs, ⟨hl, h1⟩, h2, h3⟩ := h
  rcases h1 with ⟨_, hn⟩ | ⟨g, cap, cur, hv, hb, hg, hnc, hcm, hsz, htk⟩
  · omega
  · refine ⟨g, cap, hv, hb, (Array.getElem?_eq_some_iff.1 hg).1, hnc, hcm, cur, (0, 0), hg, by omega, fun i hi => ?_, fun i _ => by simp [World.frozen?, hg]⟩
    obtain ⟨ys, hr, hc⟩ := h3 i l[i] (List.getElem?_eq_getElem hi)
    have hr' : ys = byteC l[i] := hr
    subst hr'
    have h4 := hc 0 _ rfl
    rw [← htk, List.getElem?_take] at h4
    split at h4
    · simpa using h4
    · cases h4
theorem Own.nats {e : TypeId} {w : World} {base : Nat} {S : Nat → Prop} {v : Value} {l : List Nat} (h : Own RNat 1 e w base S v l) (h0 : 0 < l.length) :
    ∃ g cap, v = .slice (some ⟨g, 0, none⟩) l.length cap ∧ base ≤ g ∧ g < w.heap.size ∧ l.length ≤ cap ∧ cap ≤ maxLen ∧ NatsAt w g l := by
  obtain ⟨g, cap, hv, hb, hg, hnc, hcm, _⟩ := h.natAt h0
  refine ⟨g, cap, hv, hb, hg, hnc, hcm, fun i hi => ?_⟩
  obtain ⟨g', cap', hv', _, _, _, _, hc⟩ := h.natAt hi
  rw [hv] at hv'
  cases hv'
  exact hc

def b128 (n : Nat) : List UInt8 := if _h : n < 128 then [UInt8.ofNat n] else b128 (n / 128) ++ [UInt8.ofNat (n % 128)]
termination_by n
decreasing_by omega
theorem b128_small {n : Nat} (h : n < 128) : b128 n = [UInt8.ofNat n] := by rw [b128, dif_pos h]
theorem b128_big {n : Nat} (h : ¬ n < 128) : b128 n = b128 (n / 128) ++ [UInt8.ofNat (n % 128)] := by rw [b128, dif_neg h]
def topB (c : UInt8) : UInt8 := UInt8.ofNat (c.toNat + 128)
theorem topB_int (c : UInt8) (h : c.toNat < 128) : (c.toNat : Int) + 128 = ((topB c).toNat : Int) := by
  rw [topB, ofNat_byte _ (by omega)]; omega
theorem toNat_ofNat_lt (n : Nat) (h : n < 256) : (UInt8.ofNat n).toNat = n := by have := ofNat_byte n h; omega
theorem b128_lt : ∀ m : Nat, ∀ c ∈ b128 m, c.toNat < 128 := by
  intro m
  induction m using Nat.strongRecOn with
  | ind m ih =>
    intro c hc
    by_cases h : m < 128
    · rw [b128_small h] at hc
      simp at hc; subst hc
      rw [toNat_ofNat_lt _ (by omega)]; omega
    · rw [b128_big h] at hc
      rcases List.mem_append.1 hc with hc | hc
      · exact ih (m / 128) (by omega) c hc
      · simp at hc; subst hc
        rw [toNat_ofNat_lt _ (by omega)]; omega
theorem b128_top : ∀ m : Nat, 1 ≤ m → (b128 m).map topB = hiL m := by
  intro m
  induction m using Nat.strongRecOn with
  | ind m ih =>
    intro h1
    rw [hiL_pos h1]
    by_cases h : m < 128
    · rw [b128_small h, show m / 128 = 0 by omega, hiL_zero]
      simp only [List.map_cons, List.map_nil, List.nil_append, topB]
      rw [toNat_ofNat_lt _ (by omega), show m % 128 = m by omega]
    · rw [b128_big h, List.map_append, ih (m / 128) (by omega) (by omega)]
      simp only [List.map_cons, List.map_nil, topB]
      rw [toNat_ofNat_lt _ (by omega)]
theorem putL_b128 (n : Nat) : ∃ a z, b128 n = a ++ [z] ∧ putL n = a.map topB ++ [z] := by
  by_cases h : n < 128
  · exact ⟨[], _, b128_small h, by rw [putL, show n / 128 = 0 by omega, hiL_zero, show n % 128 = n by omega]; rfl⟩
  · exact ⟨b128 (n / 128), _, b128_big h, by rw [putL, b128_top _ (by omega)]⟩
def halfD (a : List UInt8) (z : UInt8) (j : Nat) : List UInt8 := (a.take j).map topB ++ (a.drop j ++ [z])
theorem halfD_len (a : List UInt8) (z : UInt8) (j : Nat) (h : j ≤ a.length) : (halfD a z j).length = a.length + 1 := by
  simp [halfD]; omega
theorem halfD_at (a : List UInt8) (z : UInt8) (j : Nat) (h : j < a.length) : (halfD a z j)[j]'(by rw [halfD_len a z j (by omega)]; omega) = a[j] := by
  simp only [halfD]
  rw [List.getElem_append_right (by simp; omega)]
  simp only [List.length_map, List.length_take, Nat.min_eq_left (show j ≤ a.length by omega), Nat.sub_self]
  rw [List.getElem_append_left (by simp; omega)]
  simp
theorem halfD_set (a : List UInt8) (z : UInt8) (j : Nat) (h : j < a.length) : (halfD a z j).set j (topB a[j]) = halfD a z (j + 1) := by
  simp only [halfD]
  rw [List.set_append_right _ _ (by simp; omega), List.take_succ_eq_append_getElem h, List.drop_eq_getElem_cons h]
  simp only [List.length_map, List.length_take, Nat.min_eq_left (show j ≤ a.length by omega), Nat.sub_self, List.cons_append, List.set_cons_zero, List.map_append, List.map_cons, List.map_nil, List.append_assoc, List.nil_append]
theorem encL_flat (l : List Nat) (a b : Nat) (ha : l.getD 0 0 = a) (hb : l.getD 1 0 = b) : encL l = ((40 * a + b) :: l.drop 2).flatMap putL := by
  rw [encL, ha, hb, List.flatMap_cons]

set_option maxRecDepth 100000 in
set_option maxHeartbeats 4000000 in
theorem rEncode_any (s : ByteArray) (hs : s.size ≤ 1000000) (w : World) :
    Calls Tryd.prog 55 #[.string s] w fun e w' => e = .returned (encR (encP s.data.toList)) ∧ Below w.heap.size w w' := by
  obtain ⟨r, hr⟩ : ∃ r, arcsP s.data.toList = r := ⟨_, rfl⟩
  rw [encP, hr]
  have HR := hide hr
  clear hr
  go_enter Tryd.func55, Tryd.ntmps55
  go_wp2_with fail
  refine (rarcs_p s hs _).mono ?_
  rw [HR.out]
  rintro e w1 ⟨hb, h⟩
  cases r with
  | none =>
    subst h
    go_wp2_with fail
    go_ret2
    exact ⟨rfl, hb⟩
  | some l =>
    obtain ⟨g, c, rfl, hg, hsl⟩ := h
    obtain ⟨h2, h12, hle, hroot⟩ := arcsP_some HR.out
    obtain ⟨-, hlc, -⟩ := hsl.len_
    have hcell := hsl.nats
    have hgl : g < w1.heap.size := hsl.nats_lt (by omega)
    have h0 := hcell 0 (by omega)
    have h1 := hcell 1 (by omega)
    obtain ⟨a, ha⟩ : ∃ a, l[0]'(by omega) = a := ⟨_, rfl⟩
    obtain ⟨b, hbb⟩ : ∃ b, l[1]'(by omega) = b := ⟨_, rfl⟩
    rw [ha] at h0
    rw [hbb] at h1
    have e0 : l.getD 0 0 = a := by rw [← ha]; simp [List.getD, List.getElem?_eq_getElem (show 0 < l.length by omega)]
    have e1 : l.getD 1 0 = b := by rw [← hbb]; simp [List.getD, List.getElem?_eq_getElem (show 1 < l.length by omega)]
    have HE := hide (encL_flat l a b e0 e1)
    rw [e0, e1] at hroot
    have ha2 := rootB_le hroot
    have hb2 : b ≤ 2147483647 := by rw [← hbb]; exact hle _ (List.getElem_mem _)
    obtain ⟨L2, hL2⟩ : ∃ L2, L2 = l.drop 2 := ⟨_, rfl⟩
    have hL2l : L2.length = l.length - 2 := by rw [hL2]; simp
    have hys : ∀ (i : Nat) (y : Nat), L2[i]? = some y → w1.cell? ⟨g, 2 + i, none⟩ = some (.int .i64 (y : Int)) := fun i y hy => by
      rw [hL2, List.getElem?_drop] at hy
      obtain ⟨hi, rfl⟩ := List.getElem?_eq_some_iff.1 hy
      exact hcell _ hi
    have HLE := hide (show ∀ n ∈ L2, n ≤ 2147483647 from fun n hn => hle n (by rw [hL2] at hn; exact List.mem_of_mem_drop hn))
    rw [← hL2] at HE
    have HYS := hide hys
    have HB := hide hb
    clear e0 e1 hroot ha hbb hle hsl hcell hb hL2 hys
    obtain ⟨v0, hv0⟩ : ∃ v0, 40 * a + b = v0 := ⟨_, rfl⟩
    rw [hv0] at HE
    have hv0b : v0 ≤ 4294967295 := by omega
    have hi0 : (0 : Int) < (l.length : Int) := by omega
    have hi1 : (1 : Int) < (l.length : Int) := by omega
    have hw1 : IntKind.i64.wrap (40 * (a : Int)) = 40 * (a : Int) := IntWalk.i64_in _ (by omega)
    have hw2 : IntKind.i64.wrap (40 * (a : Int) + (b : Int)) = (v0 : Int) := by rw [IntWalk.i64_in _ (by omega)]; omega
    have hix0 : (0 : Nat) < l.length := by omega
    have hix1 : (1 : Nat) < l.length := by omega
    have hI2 : (2 : Int) ≤ (l.length : Int) := by omega
    have hI1 : (l.length : Int) ≤ (l.length : Int) := by omega
    have hI3 : (l.length : Int) ≤ (c : Int) := by omega
    have hI4 : (0 : Int) ≤ 2 := by omega
    clear hv0
    go_wp2_with fail
    obtain ⟨A2, hA2, hys2⟩ : ∃ A2 : Addr, (if c = 2 then some (⟨g, 0, none⟩ : Addr) else some ⟨g, 2, none⟩) = some A2 ∧ ∀ (i : Nat) (y : Nat), L2[i]? = some y → w1.cell? (A2.add i) = some (.int .i64 (y : Int)) ∧ (A2.add i).block < w1.heap.size := by
      by_cases hc2 : c = 2
      · refine ⟨_, if_pos hc2, fun i y hy => ?_⟩
        have := (List.getElem?_eq_some_iff.1 hy).1
        omega
      · refine ⟨_, if_neg hc2, fun i y hy => ⟨?_, by rw [Addr.add_lit]; exact hgl⟩⟩
        rw [Addr.add_lit]
        exact HYS.out i y hy
    have HY2 := hide hys2
    clear hys2
    have hsrc : ∀ W, Below w1.heap.size w1 W → ∀ i y, L2[i]? = some y → ∃ cs, RNat W No y cs ∧ ∀ j u, cs[j]? = some u → W.cell? (A2.add (i * 1 + j)) = some u := fun W hW i y hy => by
      obtain ⟨q1, q2⟩ := HY2.out i y hy
      refine ⟨_, rfl, fun j u hu => ?_⟩
      have hj : j = 0 := by have := (List.getElem?_eq_some_iff.1 hu).1; simp [natC] at this; omega
      subst hj
      simp [natC] at hu; subst hu
      rw [Nat.mul_one, Nat.add_zero, ← q1]
      exact hW.cell q2
    have HSRC := hide hsrc
    have HL2 := hide hL2l
    clear hsrc
    go_region_law (refine step_app RNat.ok _ ?_ (.tmp 26) (.tmp 28) 22 ?_ w1.heap.size 3 (.int .i64 0) 8 Tryd.underlying22 info_int rfl (by decide) No (.slice (some ⟨w1.heap.size, 0, none⟩) 1 1) [v0] ?_ ?_ A2 (l.length - 2) (c - 2) L2 ?_ HL2.out.symm ?_ (no_lt _) ?_ ?_ ?_ ?_; rfl; rfl; rfl; exact (Own.litNat (Nat.le_refl _) v0).drew RNat.ok; rfl; exact HSRC.out _ (((Below.refl _ _).alloc (Nat.le_refl _) _).drew); (simp; omega); (simp [maxLen]; omega); simp; intro v4 w4 hown4 hg4 hb4 hat4; have hsz4 := hb4.size; simp at hsz4)
    all_goals
      clear hw1 hw2 hi0 hi1 hix0 hix1 hI1 hI2 hI3 hI4 h0 h1 hA2 hL2l
      have HB4 := hide (HB.out.trans ((((Below.refl w1.heap.size w1).alloc (Nat.le_refl _) _).drew.trans (hb4.mono (by simp))).mono HB.out.size))
      rw [List.singleton_append] at hown4
      obtain ⟨LL, hLL⟩ : ∃ LL, LL = v0 :: L2 := ⟨_, rfl⟩
      rw [← hLL] at hown4 HE
      have hLLl : LL.length ≤ 12 := by rw [hLL, List.length_cons, HL2.out]; omega
      have hLL0 : 0 < LL.length := by rw [hLL]; simp
      have HLL := hide (show ∀ n ∈ LL, n ≤ 4294967295 from fun n hn => by
        rw [hLL] at hn
        rcases List.mem_cons.1 hn with rfl | hn
        · exact hv0b
        · have := HLE.out n hn; omega)
      obtain ⟨g4, c4, hv4, hbg4, hgl4, hgc4, hgm4, hnat4⟩ := hown4.nats hLL0
      subst hv4
      have HN4 := hide hnat4
      obtain ⟨bout, hbout⟩ : ∃ bout, bout = w4.heap.size := ⟨_, rfl⟩
      have hgl4' : g4 < bout := by omega
      have HBO := hide hbout
      clear hLL hown4 hg4 hb4 hat4 hsz4 hnat4 hv0b hgm4 hbout hbg4 hgl4
      go_wp2_with fail
      go_loopw [6, 32] (fun v i wr => ∃ (k : Nat) (out : List UInt8), k ≤ LL.length ∧ i = .int .i64 k ∧ Own RByte 1 5 wr bout No v out ∧ Below bout w4 wr ∧ bout ≤ wr.heap.size ∧ out.length ≤ 6 * k ∧ Hid (encL l = out ++ (LL.drop k).flatMap putL)) (fun _ i _ => LL.length - (intOf i).toNat)
      case atStart => exact ⟨0, [], by omega, rfl, Own.nil _ _ _ _ _ _, Below.refl _ _, by rw [HBO.out]; exact Nat.le_refl _, by simp, HE⟩
      case round =>
        obtain ⟨k, out, hk, rfl, hown, hb, hgs, hol, HO⟩ := hrel
        by_cases hlt : k < LL.length
        · have hcell : wr.cell? ⟨g4, k, none⟩ = some (.int .i64 (LL[k] : Int)) := (hb.cell hgl4').trans (HN4.out k hlt)
          have hd := List.drop_eq_getElem_cons hlt
          have hxb := HLL.out LL[k] (List.getElem_mem hlt)
          obtain ⟨V, hV⟩ : ∃ V, LL[k] = V := ⟨_, rfl⟩
          rw [hV] at hcell hd hxb
          have HO2 := hide (show encL l = out ++ (putL V ++ (LL.drop (k + 1)).flatMap putL) by rw [HO.out, hd, List.flatMap_cons])
          have hplV := putL_len V hxb
          obtain ⟨A, cp, hvv⟩ := (hown.sl RByte.ok).shape
          subst hvv
          clear hd hV
          obtain ⟨wo, rfl⟩ : ∃ wo : World, wo = wr := ⟨_, rfl⟩
          obtain ⟨bd, hbd, HBD⟩ : ∃ bd, bd ≤ wo.heap.size ∧ Hid (bd = wo.heap.size) := ⟨_, Nat.le_refl _, rfl⟩
          go_wp2_with fail
          go_loopw [8, 9] (fun x v wx => ∃ (n : Nat) (ds : List UInt8), n ≤ V ∧ x = .int .i64 n ∧ Own RByte 1 5 wx bd No v ds ∧ Below bd wo wx ∧ bd ≤ wx.heap.size ∧ Hid (b128 V = b128 n ++ ds)) (fun x _ _ => (intOf x).toNat)
          case atStart => exact ⟨V, [], by omega, rfl, Own.nil _ _ _ _ _ _, Below.refl _ _, hbd, hide (by simp)⟩
          case round =>
            obtain ⟨n, ds, hn, rfl, hown2, hb2, hgs2, HEQ⟩ := hrel
            have hdl : ds.length ≤ 6 := by
              obtain ⟨a', z', h1, h2⟩ := putL_b128 V
              have := congrArg List.length HEQ.out
              rw [h1] at this
              rw [h2] at hplV
              simp at this hplV
              omega
            obtain ⟨c', hcc⟩ : ∃ c', UInt8.ofNat (n % 128) = c' := ⟨_, rfl⟩
            have hcv : (n : Int) % 128 = (c'.toNat : Int) := by rw [← hcc, ofNat_byte _ (by omega)]; omega
            have hcl := byte_lt c'
            have hdiv : (n : Int) / 128 = ((n / 128 : Nat) : Int) := by omega
            obtain ⟨n', hn'⟩ : ∃ n', n / 128 = n' := ⟨_, rfl⟩
            rw [hn'] at hdiv
            have hsrc := hown2.src.grow RByte.ok (no_lt _) ((Below.refl _ _).alloc (Nat.le_refl _) (.cells #[.int .u8 (c'.toNat : Int)] 5))
            by_cases hsm : n < 128
            · have hz : ((n' : Int) == 0) = true := by simp; omega
              have HEQ2 := hide (show b128 V = c' :: ds by rw [HEQ.out, b128_small hsm, ← hcc, show n % 128 = n by omega]; rfl)
              obtain ⟨q, z, hq1, hq2⟩ := putL_b128 V
              have hql : q.length = ds.length := by have := hq1.symm.trans HEQ2.out; have := congrArg List.length this; simp at this; omega
              have HQ1 := hide (show c' :: ds = halfD q z 0 by rw [← HEQ2.out, hq1]; rfl)
              have HQ2 := hide (show putL V = halfD q z q.length by rw [hq2]; simp [halfD])
              have HQ3 := hide (show ∀ c ∈ q, c.toNat < 128 from fun c hc => b128_lt V c (by rw [hq1]; simp [hc]))
              clear hcc hn' HEQ hq1 hq2
              go_wp2_with (at_builtin; refine wpList_apps RByte.ok _ rfl (.tmp 39) (.tmp 40) 56 rfl bd 5 (.int .u8 0) 1 Tryd.underlying56 info_u8o rfl (by decide) No _ [c'] rfl (Own.litByte hgs2 c') _ ds rfl hsrc (no_lt _) (by simp; omega) (by simp [maxLen]; omega) (by simp; omega) ?_; intro v2 w2 hown3 hg3 hb3 hat3; have hsz2 := hb3.size; simp at hsz2)
              rw [List.singleton_append, HQ1.out] at hown3
              have hhl := halfD_len q z 0 (by omega)
              obtain ⟨gd, cd, hvd, hbd3, hgd3, hcd3, hcm3, hby⟩ := hown3.bytes (by omega)
              rw [hhl] at hvd hcd3
              subst hvd
              have hbX : Below bd wo w2 := (below_alloc hb2 hgs2 _).trans hb3
              have HBX := hide hbX
              have hgs3 : bd ≤ w2.heap.size := by omega
              clear hown3 hg3 hb3 hat3 hsz2 hb2 hown2 hhl hcv hdiv hz hbX hsrc
              go_wp2_with fail
              go_loopw [10] (fun i wy => ∃ j : Nat, j ≤ q.length ∧ i = .int .i64 j ∧ BytesAt wy 5 gd (halfD q z j) ∧ Below bd w2 wy ∧ bd ≤ wy.heap.size) (fun i _ => q.length - (intOf i).toNat)
              case atStart => exact ⟨0, by omega, rfl, hby, Below.refl _ _, hgs3⟩
              case round =>
                obtain ⟨j, hj, rfl, hby, hbj, hgsj⟩ := hrel
                by_cases hjl : j < q.length
                · have hhl := halfD_len q z j (by omega)
                  have hcj := hby.cell (i := j) (by omega)
                  have hfj := hby.free (i := j) (by omega)
                  rw [halfD_at q z j hjl] at hcj
                  have hset := hby.set_ (i := j) (by omega) (topB q[j])
                  rw [halfD_set q z j hjl] at hset
                  have HSET := hide hset
                  have htop := topB_int q[j] (HQ3.out _ (List.getElem_mem hjl))
                  have hx128 := HQ3.out _ (List.getElem_mem hjl)
                  obtain ⟨x, hx⟩ : ∃ x, q[j] = x := ⟨_, rfl⟩
                  rw [hx] at hcj htop HSET hx128
                  have hi1 : (j : Int) + 1 < ((q.length + 1 : Nat) : Int) := by omega
                  have hi2 : (j : Int) < ((q.length + 1 : Nat) : Int) := by omega
                  have hi3 : (0 : Int) ≤ (j : Int) := by omega
                  clear hhl hset hx hby
                  go_wp2_with fail
                  go_roundw
                  case rel => exact ⟨j + 1, by omega, by go_num, HSET.out, hbj.setCell hbd3 _, by simp; omega⟩
                  case measure => simp [intOf]; omega
                · obtain rfl : j = q.length := by omega
                  have hbY := HBX.out.trans hbj
                  have hownY := hown.below RByte.ok (no_lt _) (HBD.out ▸ hbY)
                  have hsz := hbY.size
                  rw [← HQ2.out] at hby
                  have hpl6 : (putL V).length = q.length + 1 := by rw [HQ2.out, halfD_len q z q.length (by omega)]
                  have HPL6 := hide hpl6
                  have hpl7 : (putL V).length ≤ 6 := by omega
                  have hbb : bout ≤ bd := by have := HBD.out; omega
                  have hgsY : bout ≤ (World.heap (wr)).size := by omega
                  clear hpl6
                  go_wp2_with (at_builtin; refine wpList_apps RByte.ok _ rfl (.tmp 59) (.tmp 60) 56 rfl bout 5 (.int .u8 0) 1 Tryd.underlying56 info_u8o rfl (by decide) No _ out rfl hownY _ (putL V) rfl (hby.src No HPL6.out.symm) (no_lt _) (by omega) (by unfold maxLen; omega) (by omega) ?_; intro v5 w5 hown5 hg5 hb5 hat5; have hsz5 := hb5.size)
                  go_roundw
                  case rel => exact ⟨k + 1, out ++ putL V, by omega, by go_num, hown5, (hb.trans (hbY.mono (by omega))).trans hb5, by omega, by simp; omega, hide (by rw [HO2.out, List.append_assoc])⟩
                  case measure => simp [intOf]; omega
            · have hz : ((n' : Int) == 0) = false := by simp; omega
              have HEQ2 := hide (show b128 V = b128 n' ++ (c' :: ds) by rw [HEQ.out, b128_big hsm, ← hcc, hn']; simp)
              have hlt' : n' < n := by omega
              clear hcc hn' HEQ hplV
              go_wp2_with (at_builtin; refine wpList_apps RByte.ok _ rfl (.tmp 39) (.tmp 40) 56 rfl bd 5 (.int .u8 0) 1 Tryd.underlying56 info_u8o rfl (by decide) No _ [c'] rfl (Own.litByte hgs2 c') _ ds rfl hsrc (no_lt _) (by simp; omega) (by simp [maxLen]; omega) (by simp; omega) ?_; intro v2 w2 hown3 hg3 hb3 hat3; have hsz2 := hb3.size; simp at hsz2)
              go_roundw
              case rel => exact ⟨n', c' :: ds, by omega, by go_num, hown3, (below_alloc hb2 hgs2 _).trans hb3, by omega, HEQ2⟩
              case measure => simp [intOf]; omega
        · have HO2 := hide (show encL l = out by rw [HO.out, List.drop_of_length_le (by omega)]; simp)
          have hconv := run_bts_str (P := Tryd.prog) wr 56 9 5 Tryd.underlying56 Tryd.underlying5 Tryd.underlying9 _ _ _ (hown.sl RByte.ok)
          go_wp2_with fail
          go_ret2
          exact ⟨ret_encS (by rw [← HO2.out]; rfl), HB4.out.trans (hb.mono (by have := HB4.out.size; have := HBO.out; omega))⟩
end Go.Proofs.YtbafpgdmnkkclaaDoor
