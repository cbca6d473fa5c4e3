/- Texts that the laws change: Damage, replaced. -/
import Derived.Test.YtbafpgdmnkkclaaDoorTlvI
import Derived.Test.YtbafpgdmnkkclaaDoorDecA
import Derived.Test.YtbafpgdmnkkclaaDoorTlv3
namespace Go.Proofs.YtbafpgdmnkkclaaDoor
open Go.RowKit

/-- some text of at most N bytes; of what was there only the deck has been written -/
def StrPost (d N : Nat) (w : World) (e : Ending) (w' : World) : Prop := ∃ y : ByteArray, y.size ≤ N ∧ e = .returned (.string y) ∧ DeckAt w' d ∧ Ex d w w'
theorem slice_size_to (s : ByteArray) (k : Nat) (h : k ≤ s.size) : (s.extract 0 k).size = k := by rw [ba_size_ex _ _ _ h]; omega
theorem slice_size_from (s : ByteArray) (k : Nat) : (s.extract k s.size).size = s.size - k := ba_size_ex _ _ _ (Nat.le_refl _)


set_option maxRecDepth 100000 in
set_option maxHeartbeats 4000000 in
theorem Damage_any (d : Nat) (s : ByteArray) (hs : s.size ≤ 1000000) (w : World) (h : DeckAt w d) :
    Calls Tryd.prog 11 #[.pointer (some ⟨d, 0, none⟩), .string s] w (StrPost d (s.size + 1) w) := by
  have HD := hide h
  clear h
  have hys := size_string s
  by_cases h0 : s.size = 0
  · have e1 : s.toList = [] := by rw [ByteArray.toList_eq]; exact List.eq_nil_of_length_eq_zero (by omega)
    clear h0 hys
    go_enter Tryd.func11, Tryd.ntmps11
    go_wp2_with fail
    go_ret
    exact ⟨s, by omega, rfl, HD.out, Ex.refl _ _⟩
  · have e0 : ¬ s.toList = [] := by rw [ByteArray.toList_eq]; intro e; rw [e] at hys; simp at hys; omega
    have e1 : (s.toList == []) = false := by simpa using e0
    have e3 : s.toList.isEmpty = false := by simpa using e0
    clear hys e0
    go_enter Tryd.func11, Tryd.ntmps11
    go_wp2_with fail
    refine (Next_any d s.size (by omega) (by omega) _ HD.out).mono ?_
    rintro e w1 ⟨k, hk, rfl, hd1, hx1⟩
    have HD1 := hide hd1
    have HX1 := hide hx1
    clear hd1 hx1
    go_wp2_with fail
    refine (Next_any d 256 (by omega) (by omega) _ HD1.out).mono ?_
    rintro e w2 ⟨v, hv, rfl, hd2, hx2⟩
    have HD2 := hide hd2
    have HX2 := hide (HX1.out.trans hx2)
    clear hd2 hx2
    have hu := u8_of v
    obtain ⟨c, hc⟩ : ∃ c, UInt8.ofNat v = c := ⟨_, rfl⟩
    rw [hc] at hu
    obtain ⟨W2, hW2⟩ : ∃ W, W = w2.alloc (.cells #[.int .u8 (c.toNat : Int)] 5) := ⟨_, rfl⟩
    have hcv : (convert 56 9 (.slice (some ⟨w2.heap.size, 0, none⟩) 1 1)).run Tryd.prog W2 = .ok (.string ⟨#[c]⟩) W2 := conv_one W2 w2.heap.size c (by rw [hW2, World.cell?_alloc_new]; rfl)
    rw [hW2] at hcv
    have hb2 : Below w2.heap.size w2 W2 := by rw [hW2]; exact (Below.refl _ _).alloc (Nat.le_refl _) _
    have HD2 := hide (HD2.out.below hb2)
    have HX2 := hide (HX2.out.then_ hb2)
    clear hc hb2
    go_upto_region 5 with fail
    rw [← hW2]
    clear hcv hW2 hu
    obtain ⟨C, hC⟩ : ∃ C : ByteArray, C = ⟨#[c]⟩ := ⟨_, rfl⟩
    have hCs : C.size = 1 := by rw [hC]; rfl
    rw [← hC]
    clear hC
    go_wp2_with fail
    refine (Next_any d 5 (by omega) (by omega) _ HD2.out).mono ?_
    rintro e w3 ⟨q, hq, rfl, hd3, hx3⟩
    have HD3 := hide hd3
    have HX3 := hide (HX2.out.trans hx3)
    clear hd3 hx3
    have hk1 := slice_size_to s k (by omega)
    have hk2 := slice_size_from s k
    have hk3 := slice_size_from s (k + 1)
    have hs1 := slice_to (P := Tryd.prog) 9 Tryd.underlying9 s k (k : Int) rfl (by omega)
    have hs2 := slice_from (P := Tryd.prog) 9 Tryd.underlying9 s k (k : Int) rfl (by omega)
    have hs3 := slice_from (P := Tryd.prog) 9 Tryd.underlying9 s (k + 1) ((k : Int) + 1) rfl (by omega)
    obtain ⟨a, ha⟩ : ∃ a, s.extract 0 k = a := ⟨_, rfl⟩
    obtain ⟨b, hb⟩ : ∃ b, s.extract k s.size = b := ⟨_, rfl⟩
    obtain ⟨b1, hb1⟩ : ∃ b1, s.extract (k + 1) s.size = b1 := ⟨_, rfl⟩
    rw [ha] at hk1 hs1
    rw [hb] at hk2 hs2
    rw [hb1] at hk3 hs3
    have hw : IntKind.i64.wrap ((k : Int) + 1) = (k : Int) + 1 := IntWalk.i64_in _ (by omega)
    clear ha hb hb1
    have hq5 : q = 0 ∨ q = 1 ∨ q = 2 ∨ q = 3 ∨ q = 4 := by omega
    clear hq
    rcases hq5 with rfl | rfl | rfl | rfl | rfl
    · have hyb : ¬ 9223372036854775807 < ByteArray.size a + ByteArray.size C := by omega
      have hys := ba_size a C
      obtain ⟨y, hy⟩ : ∃ yy9 : ByteArray, a ++ C = yy9 := ⟨_, rfl⟩
      rw [hy] at hys
      have hzb : ¬ 9223372036854775807 < ByteArray.size y + ByteArray.size b1 := by omega
      have hzs := ba_size y b1
      obtain ⟨z, hz⟩ : ∃ yy9 : ByteArray, y ++ b1 = yy9 := ⟨_, rfl⟩
      rw [hz] at hzs
      go_wp2_with fail
      go_quiet (fail)
      go_wp2_with fail
      go_ret
      exact ⟨_, by omega, rfl, HD3.out.below (below_drewN (Below.refl _ _) _), HX3.out.drewN _⟩
    · have hyb : ¬ 9223372036854775807 < ByteArray.size a + ByteArray.size C := by omega
      have hys := ba_size a C
      obtain ⟨y, hy⟩ : ∃ yy9 : ByteArray, a ++ C = yy9 := ⟨_, rfl⟩
      rw [hy] at hys
      have hzb : ¬ 9223372036854775807 < ByteArray.size y + ByteArray.size b := by omega
      have hzs := ba_size y b
      obtain ⟨z, hz⟩ : ∃ yy9 : ByteArray, y ++ b = yy9 := ⟨_, rfl⟩
      rw [hz] at hzs
      go_wp2_with fail
      go_quiet (fail)
      go_wp2_with fail
      go_ret
      exact ⟨_, by omega, rfl, HD3.out.below (below_drewN (Below.refl _ _) _), HX3.out.drewN _⟩
    · have hyb : ¬ 9223372036854775807 < ByteArray.size a + ByteArray.size b1 := by omega
      have hys := ba_size a b1
      obtain ⟨y, hy⟩ : ∃ yy9 : ByteArray, a ++ b1 = yy9 := ⟨_, rfl⟩
      rw [hy] at hys
      go_wp2_with fail
      go_quiet (fail)
      go_wp2_with fail
      go_ret
      exact ⟨_, by omega, rfl, HD3.out.below (below_drewN (Below.refl _ _) _), HX3.out.drewN _⟩
    · go_wp2_with fail
      go_ret
      exact ⟨_, by omega, rfl, HD3.out, HX3.out⟩
    · go_wp2_with fail
      go_ret
      exact ⟨_, by omega, rfl, HD3.out, HX3.out⟩

theorem StrPost.mono {d N M : Nat} {w : World} {e : Ending} {w' : World} (h : StrPost d N w e w') (hN : N ≤ M) : StrPost d M w e w' := by
  obtain ⟨y, h1, h2⟩ := h
  exact ⟨y, by omega, h2⟩
theorem andN31 (b : Nat) (h : b < 256) : bits .andNot .i64 (b : Int) 31 = ((b / 32 * 32 : Nat) : Int) := by
  have h : ∀ n : Fin 256, bits .andNot .i64 ((n.1 : Nat) : Int) 31 = ((n.1 / 32 * 32 : Nat) : Int) := by decide +kernel
  exact h ⟨b, by omega⟩
theorem and224 (b : Nat) (h : b < 256) : bits .and .i64 (b : Int) 224 = ((b / 32 * 32 : Nat) : Int) := by
  have h : ∀ n : Fin 256, bits .and .i64 ((n.1 : Nat) : Int) 224 = ((n.1 / 32 * 32 : Nat) : Int) := by decide +kernel
  exact h ⟨b, by omega⟩

set_option maxRecDepth 100000 in
set_option maxHeartbeats 4000000 in
theorem replaced_any (d : Nat) (s : ByteArray) (hs : s.size ≤ 1000000) (w : World) (h : DeckAt w d) :
    Calls Tryd.prog 29 #[.pointer (some ⟨d, 0, none⟩), .string s] w (StrPost d (s.size + 131077) w) := by
  have HD := hide h
  clear h
  by_cases h0 : s.size < 2
  · have e1 : (s.size : Int) < 2 := by omega
    clear h0
    go_enter Tryd.func29, Tryd.ntmps29
    go_wp2_with fail
    go_ret
    exact ⟨s, by omega, rfl, HD.out, Ex.refl _ _⟩
  · have e1 : ¬ (s.size : Int) < 2 := by omega
    have hs2 := slice_from (P := Tryd.prog) 9 Tryd.underlying9 s 2 2 rfl (by omega)
    have hk2 := slice_size_from s 2
    obtain ⟨b, hb⟩ : ∃ b, s.extract 2 s.size = b := ⟨_, rfl⟩
    rw [hb] at hs2 hk2
    have hp : 0 < s.size := by omega
    have hpi : (0 : Int) < (s.size : Int) := by omega
    obtain ⟨t, ht⟩ : ∃ t, s[0] = t := ⟨_, rfl⟩
    have htb := byte_lt t
    have hn1 := andN31 t.toNat t.toNat_lt
    have hn2 := and224 t.toNat t.toNat_lt
    obtain ⟨m, hm⟩ : ∃ m, t.toNat / 32 * 32 = m := ⟨_, rfl⟩
    rw [hm] at hn1 hn2
    have hm256 : m < 256 := by have := t.toNat_lt; omega
    clear hb h0 hm
    go_enter Tryd.func29, Tryd.ntmps29
    go_wp2_with fail
    refine (Next_any d 6 (by omega) (by omega) _ HD.out).mono ?_
    rintro e w1 ⟨q, hq, rfl, hd1, hx1⟩
    have HD1 := hide hd1
    have HX1 := hide hx1
    clear hd1 hx1
    have hq5 : q = 0 ∨ q = 1 ∨ q = 2 ∨ q = 3 ∨ q = 4 ∨ q = 5 := by omega
    clear hq
    rcases hq5 with rfl | rfl | rfl | rfl | rfl | rfl
    · go_wp2_with fail
      refine (Next_any d 31 (by omega) (by omega) _ HD1.out).mono ?_
      rintro e w2 ⟨v, hv, rfl, hd2, hx2⟩
      have HD2 := hide hd2
      have HX2 := hide (HX1.out.trans hx2)
      clear hd2 hx2
      have hsl := sl_pu (f := strC) (size := 1) (fun _ => rfl) w2 #[.string b] 9 [ByteArray.data b |>.toList] rfl (by simp [maxLen])
      have HSL := hide hsl
      have hgs := wrapG_size v [ByteArray.data b |>.toList]
      have hbA : Below (World.heap w2).size w2 (World.alloc w2 (.cells #[.string b] 9)) := (Below.refl _ _).alloc (Nat.le_refl _) _
      have HBA := hide hbA
      clear hsl hbA
      go_wp2_with fail
      refine (rWrap7_any v (by omega) [ByteArray.data b |>.toList] _ _ (by rw [List.flatten_cons, List.flatten_nil, List.append_nil, size_string]; omega) _ HSL.out).mono ?_
      rintro e w7 ⟨rfl, hb7⟩
      have HD7 := hide ((DeckAt.below HD2.out HBA.out).below hb7)
      have HX7 := hide ((Ex.then_ HX2.out HBA.out).then_ hb7)
      obtain ⟨z, hz⟩ : ∃ z : ByteArray, z = ⟨(wrapG v [ByteArray.data b |>.toList]).1.toArray⟩ := ⟨_, rfl⟩
      have hzs : z.size ≤ 131077 := by rw [hz, ba_mk]; exact hgs
      rw [← hz]
      clear hz hgs hb7
      go_wp2_with fail
      go_ret
      exact ⟨z, by omega, rfl, HD7.out, HX7.out⟩
    · have hsl := sl_pu (f := strC) (size := 1) (fun _ => rfl) w1 #[.string b] 9 [ByteArray.data b |>.toList] rfl (by simp [maxLen])
      have HSL := hide hsl
      have hgs := wrapG_size m [ByteArray.data b |>.toList]
      have hbA : Below (World.heap w1).size w1 (World.alloc w1 (.cells #[.string b] 9)) := (Below.refl _ _).alloc (Nat.le_refl _) _
      have HBA := hide hbA
      clear hsl hbA
      go_wp2_with fail
      refine (rWrap7_any m (by omega) [ByteArray.data b |>.toList] _ _ (by rw [List.flatten_cons, List.flatten_nil, List.append_nil, size_string]; omega) _ HSL.out).mono ?_
      rintro e w7 ⟨rfl, hb7⟩
      have HD7 := hide ((DeckAt.below HD1.out HBA.out).below hb7)
      have HX7 := hide ((Ex.then_ HX1.out HBA.out).then_ hb7)
      obtain ⟨z, hz⟩ : ∃ z : ByteArray, z = ⟨(wrapG m [ByteArray.data b |>.toList]).1.toArray⟩ := ⟨_, rfl⟩
      have hzs : z.size ≤ 131077 := by rw [hz, ba_mk]; exact hgs
      rw [← hz]
      clear hz hgs hb7
      go_wp2_with fail
      go_ret
      exact ⟨z, by omega, rfl, HD7.out, HX7.out⟩
    · have hEs : (⟨#[]⟩ : ByteArray).size = 0 := rfl
      have hsl := sl_pu (f := strC) (size := 1) (fun _ => rfl) w1 #[.string (⟨#[]⟩ : ByteArray)] 9 [ByteArray.data (⟨#[]⟩ : ByteArray) |>.toList] rfl (by simp [maxLen])
      have HSL := hide hsl
      have hgs := wrapG_size m [ByteArray.data (⟨#[]⟩ : ByteArray) |>.toList]
      have hbA : Below (World.heap w1).size w1 (World.alloc w1 (.cells #[.string (⟨#[]⟩ : ByteArray)] 9)) := (Below.refl _ _).alloc (Nat.le_refl _) _
      have HBA := hide hbA
      clear hsl hbA
      go_wp2_with fail
      refine (rWrap7_any m (by omega) [ByteArray.data (⟨#[]⟩ : ByteArray) |>.toList] _ _ (by rw [List.flatten_cons, List.flatten_nil, List.append_nil, size_string]; omega) _ HSL.out).mono ?_
      rintro e w7 ⟨rfl, hb7⟩
      have HD7 := hide ((DeckAt.below HD1.out HBA.out).below hb7)
      have HX7 := hide ((Ex.then_ HX1.out HBA.out).then_ hb7)
      obtain ⟨z, hz⟩ : ∃ z : ByteArray, z = ⟨(wrapG m [ByteArray.data (⟨#[]⟩ : ByteArray) |>.toList]).1.toArray⟩ := ⟨_, rfl⟩
      have hzs : z.size ≤ 131077 := by rw [hz, ba_mk]; exact hgs
      rw [← hz]
      clear hz hgs hb7
      go_wp2_with fail
      go_ret
      exact ⟨z, by omega, rfl, HD7.out, HX7.out⟩
    · go_wp2_with fail
      refine (Next_any d 256 (by omega) (by omega) _ HD1.out).mono ?_
      rintro e w2 ⟨v, hv, rfl, hd2, hx2⟩
      have HD2 := hide hd2
      have HX2 := hide (HX1.out.trans hx2)
      have hu := u8_of v
      obtain ⟨c, hc⟩ : ∃ c, UInt8.ofNat v = c := ⟨_, rfl⟩
      rw [hc] at hu
      have hcv : (convert 56 9 (.slice (some ⟨w2.heap.size, 0, none⟩) 1 1)).run Tryd.prog (w2.alloc (.cells #[.int .u8 (c.toNat : Int)] 5)) = .ok (.string ⟨#[c]⟩) (w2.alloc (.cells #[.int .u8 (c.toNat : Int)] 5)) := conv_one _ w2.heap.size c (by rw [World.cell?_alloc_new]; rfl)
      have HB2 := hide (show Below w2.heap.size w2 (w2.alloc (.cells #[.int .u8 (c.toNat : Int)] 5)) from (Below.refl _ _).alloc (Nat.le_refl _) _)
      have h3 : (⟨#[2, 1]⟩ ++ ⟨#[c]⟩ : ByteArray).size = 3 := by rw [ba_size]; rfl
      clear hd2 hx2 hc
      go_wp2_with fail
      go_ret
      exact ⟨_, by rw [h3]; omega, rfl, HD2.out.below HB2.out, HX2.out.then_ HB2.out⟩
    · go_wp2_with fail
      go_ret
      exact ⟨_, by show 2 ≤ _; omega, rfl, HD1.out, HX1.out⟩
    · go_wp2_with fail
      refine (Damage_any d s hs _ HD1.out).mono ?_
      rintro e w2 ⟨y, hy, rfl, hd2, hx2⟩
      have HD2 := hide hd2
      have HX2 := hide (HX1.out.trans hx2)
      clear hd2 hx2
      go_wp2_with fail
      go_ret
      exact ⟨y, by omega, rfl, HD2.out, HX2.out⟩
end Go.Proofs.YtbafpgdmnkkclaaDoor

/- Texts that the laws change: Rewrap. -/
namespace Go.Proofs.YtbafpgdmnkkclaaDoor
open Go.RowKit

theorem list_mem_len {b : List UInt8} {l : List Elt} (h : listF b = .ok l) {e : Elt} (he : e ∈ l) : e.2.2.length ≤ b.length := by
  rw [list_raw _ _ _ (Nat.le_refl _) h]
  clear h
  induction l with
  | nil => cases he
  | cons a r ih =>
    rw [List.flatMap_cons, List.length_append]
    rcases List.mem_cons.1 he with rfl | he
    · omega
    · have := ih he; omega
theorem Ex.toBelow {d : Nat} {w w' : World} (h : Ex d w w') (k : Nat) (hk : k < w.heap.size) (hd : k ≠ d) : w'.heap[k]? = w.heap[k]? := h.keeps k ⟨hk, hd⟩


set_option maxRecDepth 100000 in
set_option maxHeartbeats 8000000 in
theorem Rewrap_any : ∀ (n d : Nat) (s : ByteArray) (w : World), s.size ≤ n → s.size ≤ 1000000 → DeckAt w d →
    Calls Tryd.prog 12 #[.pointer (some ⟨d, 0, none⟩), .string s] w (StrPost d 2000000 w) := by
  intro n
  induction n using Nat.strongRecOn with
  | ind n ih =>
    intro d s w hn hs h
    have hdw := h.lt
    have HD := hide h
    have IH := hide ih
    clear h ih
    obtain ⟨r, hr⟩ : ∃ r, oneF s.data.toList = r := ⟨_, rfl⟩
    have HR := hide hr
    clear hr
    go_enter Tryd.func12, Tryd.ntmps12
    go_wp2_with fail
    refine (rOne_any s (by omega) _).mono ?_
    rintro e w1 ⟨rfl, hb1⟩
    rw [HR.out]
    have HB1 := hide hb1
    have hs1 := hb1.size
    clear hb1
    cases r with
    | error k =>
      have hk : k ≠ 0 := fun h => one_err0 _ (h ▸ HR.out)
      have ht : (k != 0) = true := by simpa using hk
      rw [show oneR (.error k) = .tuple #[.agg #[.int .i64 0, .string ⟨#[]⟩, .string ⟨#[]⟩], .int .i64 k] from rfl]
      clear hk
      have HBA := hide (HB1.out.alloc HB1.out.size (.cells #[.int .i64 0, .string ⟨#[]⟩, .string ⟨#[]⟩] 38))
      go_wp2_with fail
      refine (replaced_any d s (by omega) _ (HD.out.below HBA.out)).mono ?_
      rintro e w9 ⟨y, hy, rfl, hd9, hx9⟩
      have HD9 := hide hd9
      have HX9 := hide (Ex.trans (Ex.of_below HBA.out) hx9)
      clear hd9 hx9
      go_wp2_with fail
      go_ret
      exact ⟨y, by omega, rfl, HD9.out, HX9.out⟩
    | ok p =>
      obtain ⟨t, c, raw⟩ := p
      have hw := one_is_wrap HR.out
      have htw : t < 256 := hw.1
      have hcl : c.length < s.size := by
        have := congrArg List.length hw.2.2.2.2
        rw [size_string, wrapW_len] at this
        simp only at this
        omega
      have hcl2 : c.length ≤ 131072 := hw.2.2.1
      obtain ⟨x1, hx1⟩ : ∃ x : ByteArray, x = ⟨c.toArray⟩ := ⟨_, rfl⟩
      obtain ⟨x2, hx2⟩ : ∃ x : ByteArray, x = ⟨raw.toArray⟩ := ⟨_, rfl⟩
      rw [show oneR (.ok (t, c, raw)) = .tuple #[.agg #[.int .i64 (t : Int), .string x1, .string x2], .int .i64 0] by rw [oneR, eltV, hx1, hx2]]
      have hx1s : x1.size = c.length := by rw [hx1, ba_mk]
      clear hw hx1 hx2
      go_upto_region 2 with fail
      obtain ⟨wA, hwA⟩ : ∃ W, W = w1.alloc (.cells #[.int .i64 (t : Int), .string x1, .string x2] 38) := ⟨_, rfl⟩
      have n0 : wA.cell? ⟨w1.heap.size, 0, none⟩ = some (.int .i64 (t : Int)) := by rw [hwA, World.cell?_alloc_new]; rfl
      have n1 : wA.cell? ⟨w1.heap.size, 1, none⟩ = some (.string x1) := by rw [hwA, World.cell?_alloc_new]; rfl
      have HBA := hide (show Below w.heap.size w wA by rw [hwA]; exact HB1.out.alloc (by omega) _)
      have hzA : w1.heap.size < wA.heap.size := by rw [hwA]; simp
      obtain ⟨gE, hgE⟩ : ∃ g, g = w1.heap.size := ⟨_, rfl⟩
      have hgE1 : w.heap.size ≤ gE := by omega
      rw [← hgE] at n0 n1 hzA
      rw [← hwA, ← hgE]
      clear hwA hgE hs1
      obtain ⟨m1, hm1⟩ : ∃ m, t / 32 = m := ⟨_, rfl⟩
      obtain ⟨m, hm⟩ : ∃ m, m1 % 2 = m := ⟨_, rfl⟩
      have hdv : (t : Int) / 32 = (m1 : Int) := by omega
      have hmd : (m1 : Int) % 2 = (m : Int) := by omega
      clear hm1 hm
      by_cases h0 : m = 0
      · have hm0 : ((m : Int) == 0) = true := by rw [h0]; rfl
        clear h0
        go_wp2_with fail
        refine (replaced_any d s (by omega) _ (HD.out.below HBA.out)).mono ?_
        rintro e w9 ⟨y, hy, rfl, hd9, hx9⟩
        have HD9 := hide hd9
        have HX9 := hide (Ex.trans (Ex.of_below HBA.out) hx9)
        clear hd9 hx9
        go_wp2_with fail
        go_ret
        exact ⟨y, by omega, rfl, HD9.out, HX9.out⟩
      · have hm0 : ((m : Int) == 0) = false := beq_false_of_ne (by omega)
        clear h0
        go_wp2_with fail
        refine (rList_any x1 (by omega) _).mono ?_
        rintro e wL ⟨hbL, hres⟩
        obtain ⟨o, ho⟩ : ∃ o, listF x1.data.toList = o := ⟨_, rfl⟩
        rw [ho] at hres
        have HO := hide ho
        have HBL := hide (HBA.out.trans (hbL.mono (Nat.le_trans HBA.out.size (Nat.le_refl _))))
        have HbL := hide hbL
        have hsL := hbL.size
        clear ho hbL
        cases o with
        | error k =>
          obtain rfl : e = _ := hres
          have hk : k ≠ 0 := fun h => list_err0 _ _ (Nat.le_refl _) (h ▸ HO.out)
          have ht : (k != 0) = true := by simpa using hk
          clear hk
          go_wp2_with fail
          refine (replaced_any d s (by omega) _ (HD.out.below HBL.out)).mono ?_
          rintro e w9 ⟨y, hy, rfl, hd9, hx9⟩
          have HD9 := hide hd9
          have HX9 := hide (Ex.trans (Ex.of_below HBL.out) hx9)
          clear hd9 hx9
          go_wp2_with fail
          go_ret
          exact ⟨y, by omega, rfl, HD9.out, HX9.out⟩
        | ok l =>
          obtain ⟨A, cp, rfl, hsl⟩ := hres
          obtain ⟨-, hlc, hcm⟩ := hsl.len_
          unfold maxLen at hcm
          have hll := list_len _ _ _ (Nat.le_refl _) HO.out
          rw [size_string] at hll
          have HSL := hide hsl
          clear hsl
          by_cases hl0 : l.length = 0
          · have ht : ((l.length : Int) == 0) = true := by rw [hl0]; rfl
            clear hl0
            go_wp2_with fail
            refine (replaced_any d s (by omega) _ (HD.out.below HBL.out)).mono ?_
            rintro e w9 ⟨y, hy, rfl, hd9, hx9⟩
            have HD9 := hide hd9
            have HX9 := hide (Ex.trans (Ex.of_below HBL.out) hx9)
            clear hd9 hx9
            go_wp2_with fail
            go_ret
            exact ⟨y, by omega, rfl, HD9.out, HX9.out⟩
          · have ht : ((l.length : Int) == 0) = false := beq_false_of_ne (by omega)
            have hD := HD.out.below HBL.out
            have HDL := hide hD
            have hn0L : wL.cell? ⟨gE, 0, none⟩ = some (.int .i64 (t : Int)) := (HbL.out.cell hzA).trans n0
            have hgEL : gE < wL.heap.size := by omega
            have HML := hide (fun e (he : e ∈ l) => list_mem_len HO.out he)
            clear hD n0 n1
            go_wp2_with fail
            refine (Next_any d l.length (by omega) (by omega) _ HDL.out).mono ?_
            rintro e w2 ⟨k0, hk0, rfl, hd2, hx2⟩
            have HD2 := hide hd2
            have HX2 := hide hx2
            clear hd2 hx2
            go_wp2_with fail
            refine (Next_any d 8 (by omega) (by omega) _ HD2.out).mono ?_
            rintro e w3 ⟨how, hhow, rfl, hd3, hx3⟩
            have HD3 := hide hd3
            have HX3 := hide (HX2.out.trans hx3)
            clear hd3 hx3
            obtain ⟨E, hE⟩ : ∃ E : ByteArray, E = ⟨#[]⟩ := ⟨_, rfl⟩
            have hEs : E.size = 0 := by rw [hE]; rfl
            go_wp2_with fail
            clear ht hdv hmd hm0
            go_loopw [9, 54] (fun c i wr => ∃ (k : Nat) (y : ByteArray), k ≤ l.length ∧ c = .string y ∧ i = .int .i64 k ∧ y.size ≤ k * 3000000 ∧ DeckAt wr d ∧ Ex d wL wr) (fun _ i _ => l.length - (intOf i).toNat)
            case atStart => exact ⟨0, E, Nat.zero_le _, by rw [hE], rfl, by omega, HD3.out, HX3.out⟩
            case round =>
              obtain ⟨k, y, hk, rfl, rfl, hyk, hd, hx⟩ := hrel
              have HDr := hide hd
              have HXr := hide hx
              have hzr := hx.size
              clear hd hx
              by_cases hlt : k < l.length
              · obtain ⟨b, off, hA, hbS, e0, e1, e2⟩ := HSL.out.eltAt hlt
                subst hA
                have hbd : b ≠ d := by have := hbS.1; have := HBA.out.size; omega
                have hrw := HML.out l[k] (List.getElem_mem hlt)
                obtain ⟨⟨et, ec, er⟩, hel⟩ : ∃ e, l[k] = e := ⟨_, rfl⟩
                rw [hel] at e0 e1 e2 hrw
                simp only at e0 e1 e2 hrw
                obtain ⟨z1, hz1⟩ : ∃ x : ByteArray, x = ⟨ec.toArray⟩ := ⟨_, rfl⟩
                obtain ⟨z2, hz2⟩ : ∃ x : ByteArray, x = ⟨er.toArray⟩ := ⟨_, rfl⟩
                rw [← hz1] at e1
                rw [← hz2] at e2
                have hz2s : z2.size ≤ x1.size := by rw [hz2, ba_mk]; rw [size_string] at hrw; exact hrw
                have p0 := (HXr.out.cell (p := ⟨b, off + k * 3, none⟩) hbS.2 hbd).trans e0
                have p1 := (HXr.out.cell (p := ⟨b, off + k * 3 + 1, none⟩) hbS.2 hbd).trans e1
                have p2 := (HXr.out.cell (p := ⟨b, off + k * 3 + 2, none⟩) hbS.2 hbd).trans e2
                clear e0 e1 e2 hz1 hz2 hrw hel
                obtain ⟨wo, rfl⟩ : ∃ wo : World, wo = wr := ⟨_, rfl⟩
                go_upto_region 14 with fail
                obtain ⟨wB, hwB⟩ : ∃ W, W = wo.alloc (.cells #[.int .i64 (et : Int), .string z1, .string z2] 38) := ⟨_, rfl⟩
                have q2 : wB.cell? ⟨wo.heap.size, 2, none⟩ = some (.string z2) := by rw [hwB, World.cell?_alloc_new]; rfl
                have hbB : Below wo.heap.size wo wB := by rw [hwB]; exact (Below.refl _ _).alloc (Nat.le_refl _) _
                have HDB := hide (HDr.out.below hbB)
                have HXB := hide (HXr.out.then_ hbB)
                rw [← hwB]
                clear hwB hbB p0 p1 p2
                by_cases hik : k = k0
                · have hi : ((k : Int) != (k0 : Int)) = false := by simp [hik]
                  have HIK := hide hik
                  clear hik
                  by_cases h0 : how = 0
                  · have hi0 : ((how : Int) == 0) = true := by rw [h0]; rfl
                    clear h0
                    have hub : ¬ 9223372036854775807 < ByteArray.size z2 + ByteArray.size z2 := by omega
                    have hus := ba_size z2 z2
                    obtain ⟨u, hu⟩ : ∃ yy9 : ByteArray, z2 ++ z2 = yy9 := ⟨_, rfl⟩
                    rw [hu] at hus
                    have hvb : ¬ 9223372036854775807 < ByteArray.size y + ByteArray.size u := by omega
                    have hvs := ba_size y u
                    obtain ⟨v, hv⟩ : ∃ yy9 : ByteArray, y ++ u = yy9 := ⟨_, rfl⟩
                    rw [hv] at hvs
                    go_wp2_with fail
                    go_roundw
                    case rel => exact ⟨k + 1, v, by omega, rfl, by go_num, by omega, HDB.out, HXB.out⟩
                    case measure => simp [intOf]; omega
                  · have hi0 : ((how : Int) == 0) = false := beq_false_of_ne (by omega)
                    by_cases h1 : how = 1
                    · have hi1 : ((how : Int) == 1) = true := by rw [h1]; rfl
                      clear h0 h1
                      go_wp2_with fail
                      go_roundw
                      case rel => exact ⟨k + 1, y, by omega, rfl, by go_num, Nat.le_trans hyk (Nat.mul_le_mul_right _ (Nat.le_succ k)), HDB.out, HXB.out⟩
                      case measure => simp [intOf]; omega
                    · have hi1 : ((how : Int) == 1) = false := beq_false_of_ne (by omega)
                      by_cases h2 : how = 2
                      · have hi2 : ((how : Int) == 2) = true := by rw [h2]; rfl
                        clear h0 h1 h2
                        go_wp2_with fail
                        refine (replaced_any d z2 (by omega) _ HDB.out).mono ?_
                        rintro e w9 ⟨u, hu, rfl, hd9, hx9⟩
                        have HD9 := hide hd9
                        have HX9 := hide (HXB.out.trans hx9)
                        clear hd9 hx9
                        have hvb : ¬ 9223372036854775807 < ByteArray.size y + ByteArray.size u := by omega
                        have hvs := ba_size y u
                        obtain ⟨v, hv⟩ : ∃ yy9 : ByteArray, y ++ u = yy9 := ⟨_, rfl⟩
                        rw [hv] at hvs
                        go_wp2_with fail
                        go_roundw
                        case rel => exact ⟨k + 1, v, by omega, rfl, by go_num, by omega, HD9.out, HX9.out⟩
                        case measure => simp [intOf]; omega
                      · have hi2 : ((how : Int) == 2) = false := beq_false_of_ne (by omega)
                        clear h0 h1 h2
                        go_wp2_with fail
                        refine (IH.out z2.size (by omega) d z2 _ (Nat.le_refl _) (by omega) HDB.out).mono ?_
                        rintro e w9 ⟨u, hu, rfl, hd9, hx9⟩
                        have HD9 := hide hd9
                        have HX9 := hide (HXB.out.trans hx9)
                        clear hd9 hx9
                        have hvb : ¬ 9223372036854775807 < ByteArray.size y + ByteArray.size u := by omega
                        have hvs := ba_size y u
                        obtain ⟨v, hv⟩ : ∃ yy9 : ByteArray, y ++ u = yy9 := ⟨_, rfl⟩
                        rw [hv] at hvs
                        go_wp2_with fail
                        go_roundw
                        case rel => exact ⟨k + 1, v, by omega, rfl, by go_num, by omega, HD9.out, HX9.out⟩
                        case measure => simp [intOf]; omega
                · have hi : ((k : Int) != (k0 : Int)) = true := bne_iff_ne.2 (fun e => hik (Int.ofNat.inj e))
                  clear hik
                  have hvb : ¬ 9223372036854775807 < ByteArray.size y + ByteArray.size z2 := by omega
                  have hvs := ba_size y z2
                  obtain ⟨v, hv⟩ : ∃ yy9 : ByteArray, y ++ z2 = yy9 := ⟨_, rfl⟩
                  rw [hv] at hvs
                  go_wp2_with fail
                  go_roundw
                  case rel => exact ⟨k + 1, v, by omega, rfl, by go_num, by omega, HDB.out, HXB.out⟩
                  case measure => simp [intOf]; omega
              · have hkl : k = l.length := by omega
                have hgd : gE ≠ d := by omega
                have hn0r : wr.cell? ⟨gE, 0, none⟩ = some (.int .i64 (t : Int)) := (HXr.out.cell (p := ⟨gE, 0, none⟩) hgEL hgd).trans hn0L
                have hsl := sl_pu (f := strC) (size := 1) (fun _ => rfl) wr #[.string y] 9 [y.data.toList] rfl (by simp [maxLen])
                have HSL2 := hide hsl
                have hgs := wrapG_size t [y.data.toList]
                have hbA : Below wr.heap.size wr (wr.alloc (.cells #[.string y] 9)) := (Below.refl _ _).alloc (Nat.le_refl _) _
                have HBy := hide hbA
                clear hsl hbA
                go_wp2_with fail
                refine (rWrap7_any t htw [y.data.toList] _ _ (by rw [List.flatten_cons, List.flatten_nil, List.append_nil, size_string]; omega) _ HSL2.out).mono ?_
                rintro e w7 ⟨rfl, hb7⟩
                have HD7 := hide ((HDr.out.below HBy.out).below hb7)
                have HX7 := hide ((Ex.of_below HBL.out).trans ((HXr.out.then_ HBy.out).then_ hb7))
                obtain ⟨z, hz⟩ : ∃ z : ByteArray, z = ⟨(wrapG t [y.data.toList]).1.toArray⟩ := ⟨_, rfl⟩
                have hzs : z.size ≤ 131077 := by rw [hz, ba_mk]; exact hgs
                rw [← hz]
                clear hz hgs hb7
                go_wp2_with fail
                go_ret
                exact ⟨z, by omega, rfl, HD7.out, HX7.out⟩
end Go.Proofs.YtbafpgdmnkkclaaDoor
