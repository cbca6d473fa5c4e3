/- The reference of package oid: the walk of arcs. -/
import Derived.Test.YtbafpgdmnkkclaaDoorOid1
namespace Go.Proofs.YtbafpgdmnkkclaaDoor
open Go.RowKit

def RefPost (w : World) (r : Option (List Nat)) (e : Ending) (w' : World) : Prop :=
  Below w.heap.size w w' ∧ match r with
    | none => e = .returned (.tuple #[.slice none 0 0, .bool false])
    | some l => ∃ g c, e = .returned (.tuple #[.slice (some ⟨g, 0, none⟩) l.length c, .bool true]) ∧ w.heap.size ≤ g ∧ Sl RNat 1 w' (Lt w'.heap.size) l [.slice (some ⟨g, 0, none⟩) l.length c]
theorem RefPost.none_ {w : World} {e : Ending} {w' : World} {r : Option (List Nat)} (h : r.bind refEnd = none) (hb : Below w.heap.size w w') (he : e = .returned (.tuple #[.slice Option.none 0 0, .bool false])) : RefPost w (r.bind refEnd) e w' := by rw [h]; exact ⟨hb, he⟩
theorem arcG_dig (d : List UInt8) (h1 : d.length ≠ 0) (h2 : d.length ≤ 10) (h3 : d.getD 0 0 = 48 → d.length = 1) : arcG d = arcK 0 d := by
  rw [arcG, if_neg]
  rintro (h | h | ⟨h, h'⟩)
  · omega
  · omega
  · have := h3 h; omega

theorem arcM_none {d : List UInt8} {n : Nat} (h : n = 12 ∨ d.length = 0 ∨ 10 < d.length ∨ (d.getD 0 0 = 48 ∧ 1 < d.length)) : arcM d n = none := by
  unfold arcM
  split
  · rfl
  · rw [arcG, if_pos]
    rcases h with h | h
    · contradiction
    · exact h
theorem getD0 (s : ByteArray) (hp : 0 < s.size) : s.data.toList.getD 0 0 = s[0] := by
  have := drop_string s 0 hp
  rw [List.drop_zero] at this
  rw [this]; rfl
theorem mem_byte (s : ByteArray) (k : Nat) (h : k < s.size) : s[k] ∈ s.data.toList := by
  have h2 : s[k] = s.data.toList[k]'(by simpa using h) := by simp [ByteArray.getElem_eq_getElem_data]
  rw [h2]; exact List.getElem_mem _
theorem isDig_le {c : UInt8} (h : isDig c = true) : 48 ≤ (c.toNat : Int) ∧ (c.toNat : Int) ≤ 57 := by simpa [isDig] using h
theorem isDig_no {c : UInt8} (h : ¬ (48 ≤ (c.toNat : Int) ∧ (c.toNat : Int) ≤ 57)) : isDig c = false := by simp [isDig]; omega
theorem refEnd_eq {l : List Nat} {a b : Nat} (h2 : ¬ l.length < 2) (ha : l.getD 0 0 = a) (hb : l.getD 1 0 = b) : refEnd l = if 2 < a ∨ (a < 2 ∧ 39 < b) then none else some l := by
  rw [refEnd, ha, hb]
  by_cases h : 2 < a ∨ (a < 2 ∧ 39 < b)
  · rw [if_pos h, if_pos (.inr h)]
  · rw [if_neg h, if_neg]
    rintro (h' | h')
    · exact h2 h'
    · exact h h'


set_option maxRecDepth 100000 in
set_option maxHeartbeats 8000000 in
theorem rarcs_any (s : ByteArray) (hs : s.size ≤ 1000000) (w : World) :
    Calls Tryd.prog 67 #[.string s] w (RefPost w (refP s.data.toList)) := by
  obtain ⟨r, hr⟩ : ∃ r, r = refG [] 0 s.data.toList := ⟨_, rfl⟩
  rw [refP, ← hr]
  have HR := hide hr
  clear hr
  obtain ⟨base, hbase, HBASE⟩ : ∃ base, base ≤ w.heap.size ∧ Hid (base = w.heap.size) := ⟨_, Nat.le_refl _, rfl⟩
  go_enter Tryd.func67, Tryd.ntmps67
  go_wp2_with fail
  go_loopw [4, 5, 6] (fun v a i wr => ∃ (k at_ : Nat) (out : List Nat), k ≤ s.size + 1 ∧ at_ ≤ k ∧ out.length ≤ 12 ∧ i = .int .i64 k ∧ a = .int .i64 at_ ∧ Own RNat 1 3 wr base No v out ∧ Below base w wr ∧ base ≤ wr.heap.size ∧ Hid (RefRel s r k at_ out)) (fun _ _ i _ => s.size + 1 - (intOf i).toNat)
  case atStart => exact ⟨0, 0, [], by omega, by omega, by simp, rfl, rfl, Own.nil _ _ _ _ _ _, Below.refl _ _, hbase, hide (by rw [HR.out]; exact RefRel.init s)⟩
  case round =>
    obtain ⟨k, at_, out, hk, hat, hol, rfl, rfl, hown, hb, hgs, H⟩ := hrel
    obtain ⟨A, cp, hv⟩ := (hown.sl RNat.ok).shape
    subst hv
    by_cases hle : k ≤ s.size
    · by_cases hcont : ∃ h : k < s.size, s[k] ≠ 46
      · obtain ⟨hlt, hne⟩ := hcont
        obtain ⟨c, hc⟩ : ∃ c, s[k] = c := ⟨_, rfl⟩
        have ht : ((c.toNat : Int) != 46) = true := by rw [bne, show ((c.toNat : Int) == 46) = (c == 46) from byte_beq' c 46]; rw [hc] at hne; simp [hne]
        have HNE := hide hne
        have HC := hide hc
        have hcl := byte_lt c
        have hk0 : (0 : Int) ≤ (k : Int) := by omega
        have hks : (k : Int) < (s.size : Int) := by omega
        clear hne
        by_cases hdg : 48 ≤ (c.toNat : Int) ∧ (c.toNat : Int) ≤ 57
        · have HN := hide (H.out.digit hlt HNE.out (by rw [HC.out]; simp [isDig]; omega))
          obtain ⟨hd1, hd2⟩ := hdg
          go_wp2_with fail
          go_roundw
          case rel => exact ⟨k + 1, at_, out, by omega, by omega, hol, by go_num, rfl, hown, hb, hgs, HN⟩
          case measure => simp [intOf]; omega
        · have HN := hide (H.out.bad hlt HNE.out (by rw [HC.out]; exact isDig_no hdg))
          have hdg' : (c.toNat : Int) < 48 ∨ (48 ≤ (c.toNat : Int) ∧ 57 < (c.toNat : Int)) := by omega
          clear hdg
          rcases hdg' with hd1 | ⟨hd1, hd2⟩
          all_goals
            go_wp2_with fail
            go_ret2
            exact RefPost.none_ (by rw [HN.out]; rfl) (HBASE.out ▸ hb) rfl
      · have hterm : k = s.size ∨ ∃ h : k < s.size, s[k] = 46 := by
          rcases Nat.lt_or_ge k s.size with h | h
          · exact .inr ⟨h, Classical.byContradiction fun hn => hcont ⟨h, hn⟩⟩
          · exact .inl (by omega)
        clear hcont
        rcases hterm with rfl | ⟨hlt, hc⟩
        · have hterm : s.size = s.size ∨ ∃ h : s.size < s.size, s[s.size] = 46 := .inl rfl
          have HT := hide hterm
          have hsl := slice_str (P := Tryd.prog) 9 Tryd.underlying9 s at_ s.size at_ s.size rfl rfl hat hle
          have hdig : ∀ c ∈ (s.extract at_ s.size).data.toList, isDig c = true := by
            rcases H.out with ⟨_, _, h, _⟩ | ⟨h, _⟩
            · exact h
            · omega
          have hsz := ba_size_ex s at_ s.size hle
          have HPN := hide (fun (h : arcM (s.extract at_ s.size).data.toList out.length = none) => H.out.pieceN HT.out h)
          have HPS := hide (fun v (h : arcM (s.extract at_ s.size).data.toList out.length = some v) => H.out.pieceS HT.out h)
          obtain ⟨D, hD⟩ : ∃ D, s.extract at_ s.size = D := ⟨_, rfl⟩
          rw [hD] at hsl hdig hsz HPN HPS
          have HDIG := hide hdig
          have hdl := size_string D
          clear hdig hD H HT hterm hsz
          have hk0 : (0 : Int) ≤ ((s.size : Nat) : Int) := by omega
          by_cases h0 : D.size = 0
          · have HN := hide (HPN.out (arcM_none (.inr (.inl (by omega)))))
            go_wp2_with fail
            go_ret2
            exact RefPost.none_ (by rw [HN.out]; rfl) (HBASE.out ▸ hb) rfl
          · by_cases h10 : 10 < D.size
            · have HN := hide (HPN.out (arcM_none (.inr (.inr (.inl (by omega))))))
              go_wp2_with fail
              go_ret2
              exact RefPost.none_ (by rw [HN.out]; rfl) (HBASE.out ▸ hb) rfl
            · have hp : 0 < D.size := by omega
              have hpi : (0 : Int) < (D.size : Int) := by omega
              have hd0 := getD0 D hp
              have hb0 := byte_eq48 D[0]
              by_cases hz : D[0] = 48 ∧ 1 < D.size
              · have ht0 : ((D[0].toNat : Int) == 48) = true := by rw [hb0]; simp [hz.1]
                obtain ⟨hz1, hz2⟩ := hz
                have hz3 := hd0.trans hz1
                have HN := hide (HPN.out (arcM_none (.inr (.inr (.inr ⟨hz3, by omega⟩)))))
                go_wp2_with fail
                go_ret2
                exact RefPost.none_ (by rw [HN.out]; rfl) (HBASE.out ▸ hb) rfl
              · have hz' : (((D[0].toNat : Int) == 48) = false ∧ 1 < D.size) ∨ D.size ≤ 1 := by
                  rw [hb0]
                  by_cases e : D[0] = 48
                  · exact .inr (by have : ¬ 1 < D.size := fun h => hz ⟨e, h⟩; omega)
                  · rcases Nat.lt_or_ge 1 D.size with h | h
                    · exact .inl ⟨by simp [e], h⟩
                    · exact .inr h
                have HG := hide (arcG_dig D.data.toList (by omega) (by omega) (fun h => by rw [hd0] at h; have : ¬ 1 < D.size := fun h' => hz ⟨h, h'⟩; omega))
                clear hd0 hb0 hz
                by_cases h12 : out.length = 12
                · rcases hz' with ⟨ht0, ht1⟩ | ht1
                  · have HN := hide (HPN.out (arcM_none (.inl h12)))
                    go_wp2_with fail
                    go_ret2
                    exact RefPost.none_ (by rw [HN.out]; rfl) (HBASE.out ▸ hb) rfl
                  · have HN := hide (HPN.out (arcM_none (.inl h12)))
                    go_wp2_with fail
                    go_ret2
                    exact RefPost.none_ (by rw [HN.out]; rfl) (HBASE.out ▸ hb) rfl
                · have HM := hide (show arcM D.data.toList out.length = arcG D.data.toList by rw [arcM, if_neg h12])
                  rcases hz' with ⟨ht0, ht1⟩ | ht1
                  all_goals
                    obtain ⟨wo, rfl⟩ : ∃ wo : World, wo = wr := ⟨_, rfl⟩
                    have HB := hide hb
                    have HOL := hide hol
                    have hq0 : ((D.size : Int) == 0) = false := beq_false_of_ne (by omega)
                    have hq12 : ((out.length : Int) == 12) = false := beq_false_of_ne (by omega)
                    clear hb
                    go_wp2_with fail
                    go_loop [8, 9] (fun v i => ∃ (j n : Nat), j ≤ D.size ∧ n < 10000000000 ∧ i = .int .i64 j ∧ v = .int .i64 n ∧ Hid (n < 10 ^ j) ∧ Hid (arcG D.data.toList = arcK n (D.data.toList.drop j))) (fun _ i => D.size - (intOf i).toNat)
                    case atStart => exact ⟨0, 0, by omega, by omega, rfl, rfl, hide (by omega), HG⟩
                    case round =>
                      obtain ⟨j, n, hj, hnb, rfl, rfl, HN, HA⟩ := hrel
                      by_cases hlt' : j < D.size
                      · have HD := drop_string D j hlt'
                        have hdg := isDig_le (HDIG.out _ (mem_byte D j hlt'))
                        obtain ⟨c', hcc⟩ : ∃ c', D[j] = c' := ⟨_, rfl⟩
                        rw [hcc] at HD hdg
                        have HX := hide (show arcG D.data.toList = arcK (10 * n + (c'.toNat - 48)) (D.data.toList.drop (j + 1)) by rw [HA.out, HD, arcK, if_pos (by simp [isDig]; omega)])
                        have hn9 := pow10_bd9 HN.out (by omega)
                        have HN2 := hide (show 10 * n + (c'.toNat - 48) < 10 ^ (j + 1) by have := HN.out; rw [Nat.pow_succ]; omega)
                        have hj0 : (0 : Int) ≤ (j : Int) := by omega
                        have hjd : (j : Int) < (D.size : Int) := by omega
                        obtain ⟨hd1, hd2⟩ := hdg
                        clear HD
                        go_wp2_with fail
                        go_round
                        case rel => exact ⟨j + 1, 10 * n + (c'.toNat - 48), by omega, by omega, by go_num, by go_num, HN2, HX⟩
                        case measure => simp [intOf]; omega
                      · have HE := hide (drop_string_end D j (by omega))
                        by_cases hbig : 2147483647 < n
                        · have HY := hide (HPN.out (by rw [HM.out, HA.out, HE.out, arcK, if_pos hbig]))
                          go_wp2_with fail
                          go_ret2
                          exact RefPost.none_ (by rw [HY.out]; rfl) (HBASE.out ▸ HB.out) rfl
                        · have HY := hide (HPS.out n (by rw [HM.out, HA.out, HE.out, arcK, if_neg hbig]))
                          go_wp2_with (at_builtin; refine wpList_app RNat.ok _ rfl (.tmp 79) (.tmp 81) 22 rfl base 3 (.int .i64 0) 8 Tryd.underlying22 info_int rfl (by decide) No _ out rfl (hown.alloc RNat.ok (no_lt _) _) ⟨_, 0, none⟩ 1 1 [n] rfl rfl (news_nats _ _ _ _ [n] rfl) (no_lt _) (by simp; omega) (by simp [maxLen]; omega) (by simp; omega) ?_; intro v2 w2 hown2 hg2 hb2 hat2; have hsz2 := hb2.size; simp at hsz2)
                          go_roundw
                          case rel => exact ⟨s.size + 1, s.size + 1, out ++ [n], by omega, by omega, by simp <;> omega, by go_num, (by first | rfl | go_num), hown2, (below_alloc HB.out hgs _).trans hb2, by omega, HY⟩
                          case measure => simp [intOf] <;> omega
        · have hterm : k = s.size ∨ ∃ h : k < s.size, s[k] = 46 := .inr ⟨hlt, hc⟩
          obtain ⟨c, hc'⟩ : ∃ c, s[k] = c := ⟨_, rfl⟩
          have ht : ((c.toNat : Int) != 46) = false := by rw [bne, show ((c.toNat : Int) == 46) = (c == 46) from byte_beq' c 46]; rw [hc'] at hc; simp [hc]
          clear hc
          have hlti : (k : Int) < (s.size : Int) := by omega
          have HT := hide hterm
          have hsl := slice_str (P := Tryd.prog) 9 Tryd.underlying9 s at_ k at_ k rfl rfl hat hle
          have hdig : ∀ c ∈ (s.extract at_ k).data.toList, isDig c = true := by
            rcases H.out with ⟨_, _, h, _⟩ | ⟨h, _⟩
            · exact h
            · omega
          have hsz := ba_size_ex s at_ k hle
          have HPN := hide (fun (h : arcM (s.extract at_ k).data.toList out.length = none) => H.out.pieceN HT.out h)
          have HPS := hide (fun v (h : arcM (s.extract at_ k).data.toList out.length = some v) => H.out.pieceS HT.out h)
          obtain ⟨D, hD⟩ : ∃ D, s.extract at_ k = D := ⟨_, rfl⟩
          rw [hD] at hsl hdig hsz HPN HPS
          have HDIG := hide hdig
          have hdl := size_string D
          clear hdig hD H HT hterm hsz
          have hk0 : (0 : Int) ≤ ((k : Nat) : Int) := by omega
          by_cases h0 : D.size = 0
          · have HN := hide (HPN.out (arcM_none (.inr (.inl (by omega)))))
            go_wp2_with fail
            go_ret2
            exact RefPost.none_ (by rw [HN.out]; rfl) (HBASE.out ▸ hb) rfl
          · by_cases h10 : 10 < D.size
            · have HN := hide (HPN.out (arcM_none (.inr (.inr (.inl (by omega))))))
              go_wp2_with fail
              go_ret2
              exact RefPost.none_ (by rw [HN.out]; rfl) (HBASE.out ▸ hb) rfl
            · have hp : 0 < D.size := by omega
              have hpi : (0 : Int) < (D.size : Int) := by omega
              have hd0 := getD0 D hp
              have hb0 := byte_eq48 D[0]
              by_cases hz : D[0] = 48 ∧ 1 < D.size
              · have ht0 : ((D[0].toNat : Int) == 48) = true := by rw [hb0]; simp [hz.1]
                obtain ⟨hz1, hz2⟩ := hz
                have hz3 := hd0.trans hz1
                have HN := hide (HPN.out (arcM_none (.inr (.inr (.inr ⟨hz3, by omega⟩)))))
                go_wp2_with fail
                go_ret2
                exact RefPost.none_ (by rw [HN.out]; rfl) (HBASE.out ▸ hb) rfl
              · have hz' : (((D[0].toNat : Int) == 48) = false ∧ 1 < D.size) ∨ D.size ≤ 1 := by
                  rw [hb0]
                  by_cases e : D[0] = 48
                  · exact .inr (by have : ¬ 1 < D.size := fun h => hz ⟨e, h⟩; omega)
                  · rcases Nat.lt_or_ge 1 D.size with h | h
                    · exact .inl ⟨by simp [e], h⟩
                    · exact .inr h
                have HG := hide (arcG_dig D.data.toList (by omega) (by omega) (fun h => by rw [hd0] at h; have : ¬ 1 < D.size := fun h' => hz ⟨h, h'⟩; omega))
                clear hd0 hb0 hz
                by_cases h12 : out.length = 12
                · rcases hz' with ⟨ht0, ht1⟩ | ht1
                  · have HN := hide (HPN.out (arcM_none (.inl h12)))
                    go_wp2_with fail
                    go_ret2
                    exact RefPost.none_ (by rw [HN.out]; rfl) (HBASE.out ▸ hb) rfl
                  · have HN := hide (HPN.out (arcM_none (.inl h12)))
                    go_wp2_with fail
                    go_ret2
                    exact RefPost.none_ (by rw [HN.out]; rfl) (HBASE.out ▸ hb) rfl
                · have HM := hide (show arcM D.data.toList out.length = arcG D.data.toList by rw [arcM, if_neg h12])
                  rcases hz' with ⟨ht0, ht1⟩ | ht1
                  all_goals
                    obtain ⟨wo, rfl⟩ : ∃ wo : World, wo = wr := ⟨_, rfl⟩
                    have HB := hide hb
                    have HOL := hide hol
                    have hq0 : ((D.size : Int) == 0) = false := beq_false_of_ne (by omega)
                    have hq12 : ((out.length : Int) == 12) = false := beq_false_of_ne (by omega)
                    clear hb
                    go_wp2_with fail
                    go_loop [8, 9] (fun v i => ∃ (j n : Nat), j ≤ D.size ∧ n < 10000000000 ∧ i = .int .i64 j ∧ v = .int .i64 n ∧ Hid (n < 10 ^ j) ∧ Hid (arcG D.data.toList = arcK n (D.data.toList.drop j))) (fun _ i => D.size - (intOf i).toNat)
                    case atStart => exact ⟨0, 0, by omega, by omega, rfl, rfl, hide (by omega), HG⟩
                    case round =>
                      obtain ⟨j, n, hj, hnb, rfl, rfl, HN, HA⟩ := hrel
                      by_cases hlt' : j < D.size
                      · have HD := drop_string D j hlt'
                        have hdg := isDig_le (HDIG.out _ (mem_byte D j hlt'))
                        obtain ⟨c', hcc⟩ : ∃ c', D[j] = c' := ⟨_, rfl⟩
                        rw [hcc] at HD hdg
                        have HX := hide (show arcG D.data.toList = arcK (10 * n + (c'.toNat - 48)) (D.data.toList.drop (j + 1)) by rw [HA.out, HD, arcK, if_pos (by simp [isDig]; omega)])
                        have hn9 := pow10_bd9 HN.out (by omega)
                        have HN2 := hide (show 10 * n + (c'.toNat - 48) < 10 ^ (j + 1) by have := HN.out; rw [Nat.pow_succ]; omega)
                        have hj0 : (0 : Int) ≤ (j : Int) := by omega
                        have hjd : (j : Int) < (D.size : Int) := by omega
                        obtain ⟨hd1, hd2⟩ := hdg
                        clear HD
                        go_wp2_with fail
                        go_round
                        case rel => exact ⟨j + 1, 10 * n + (c'.toNat - 48), by omega, by omega, by go_num, by go_num, HN2, HX⟩
                        case measure => simp [intOf]; omega
                      · have HE := hide (drop_string_end D j (by omega))
                        by_cases hbig : 2147483647 < n
                        · have HY := hide (HPN.out (by rw [HM.out, HA.out, HE.out, arcK, if_pos hbig]))
                          go_wp2_with fail
                          go_ret2
                          exact RefPost.none_ (by rw [HY.out]; rfl) (HBASE.out ▸ HB.out) rfl
                        · have HY := hide (HPS.out n (by rw [HM.out, HA.out, HE.out, arcK, if_neg hbig]))
                          go_wp2_with (at_builtin; refine wpList_app RNat.ok _ rfl (.tmp 79) (.tmp 81) 22 rfl base 3 (.int .i64 0) 8 Tryd.underlying22 info_int rfl (by decide) No _ out rfl (hown.alloc RNat.ok (no_lt _) _) ⟨_, 0, none⟩ 1 1 [n] rfl rfl (news_nats _ _ _ _ [n] rfl) (no_lt _) (by simp; omega) (by simp [maxLen]; omega) (by simp; omega) ?_; intro v2 w2 hown2 hg2 hb2 hat2; have hsz2 := hb2.size; simp at hsz2)
                          go_roundw
                          case rel => exact ⟨k + 1, k + 1, out ++ [n], by omega, by omega, by simp <;> omega, by go_num, (by first | rfl | go_num), hown2, (below_alloc HB.out hgs _).trans hb2, by omega, HY⟩
                          case measure => simp [intOf] <;> omega
    · have hk' : k = s.size + 1 := by omega
      have hro : r = some out := by
        rcases H.out with ⟨h, _⟩ | ⟨_, h⟩
        · omega
        · exact h
      have HRO := hide (show r.bind refEnd = refEnd out by rw [hro]; rfl)
      have HB := hide hb
      clear hro hb H
      by_cases h2 : out.length < 2
      · have HX := hide (show r.bind refEnd = none by rw [HRO.out, refEnd, if_pos (.inl h2)])
        go_wp2_with fail
        go_ret2
        exact RefPost.none_ HX.out (HBASE.out ▸ HB.out) rfl
      · obtain ⟨g0, cap, hv, hbg, hgl, hgc, hgm, hc0⟩ := hown.natAt (i := 0) (by omega)
        obtain ⟨g1, cap1, hv1, _, _, _, _, hc1⟩ := hown.natAt (i := 1) (by omega)
        rw [hv] at hv1
        simp only [Value.slice.injEq, Option.some.injEq, Addr.mk.injEq, and_true, true_and] at hv1
        obtain ⟨rfl, rfl⟩ := hv1
        simp only [Value.slice.injEq, true_and] at hv
        obtain ⟨rfl, rfl⟩ := hv
        obtain ⟨a, ha⟩ : ∃ a, out[0]'(by omega) = a := ⟨_, rfl⟩
        obtain ⟨b, hb'⟩ : ∃ b, out[1]'(by omega) = b := ⟨_, rfl⟩
        have e0 : out.getD 0 0 = a := by rw [← ha]; simp [List.getD, List.getElem?_eq_getElem (show 0 < out.length by omega)]
        have e1 : out.getD 1 0 = b := by rw [← hb']; simp [List.getD, List.getElem?_eq_getElem (show 1 < out.length by omega)]
        rw [ha] at hc0
        rw [hb'] at hc1
        have HX := hide (HRO.out.trans (refEnd_eq h2 e0 e1))
        have HSL := hide ((Sl.ok RNat.ok).mono (hown.sl RNat.ok) (w' := wr) (S' := Lt wr.heap.size) (fun _ _ => rfl) (fun k hk => by rcases hk with h | h; exact h.elim; exact h.2))
        have hl1 : (1 : Int) < (out.length : Int) := by omega
        have hl0 : (0 : Int) < (out.length : Int) := by omega
        have HGB := hide (show w.heap.size ≤ g0 by have := HBASE.out; omega)
        clear e0 e1 ha hb' hown hgm
        by_cases ha2 : 2 < a
        · have HY := hide (HX.out.trans (if_pos (.inl ha2)))
          go_wp2_with fail
          go_ret2
          exact RefPost.none_ HY.out (HBASE.out ▸ HB.out) rfl
        · by_cases ha1 : a < 2
          · by_cases hb9 : 39 < b
            · have HY := hide (HX.out.trans (if_pos (.inr ⟨ha1, hb9⟩)))
              go_wp2_with fail
              go_ret2
              exact RefPost.none_ HY.out (HBASE.out ▸ HB.out) rfl
            · have HY := hide (HX.out.trans (if_neg (by omega)))
              go_wp2_with fail
              go_ret2
              exact HY.out ▸ ⟨HBASE.out ▸ HB.out, g0, cp, rfl, HGB.out, HSL.out⟩
          · have HY := hide (HX.out.trans (if_neg (by omega)))
            go_wp2_with fail
            go_ret2
            exact HY.out ▸ ⟨HBASE.out ▸ HB.out, g0, cp, rfl, HGB.out, HSL.out⟩
end Go.Proofs.YtbafpgdmnkkclaaDoor
