/- The reference's FormatName. -/
import Derived.Test.YtmgnihmjjijdoaaGreatDoorNtC
import Derived.Test.YtmgnihmjjijdoaaGreatDoorGNamR
import Derived.Test.YtmgnihmjjijdoaaGreatDoorGLibI
import Derived.Test.YtmgnihmjjijdoaaGreatDoorGTxtA
import Derived.Deep.DeepCutAuto
namespace Go.Proofs.YtmgnihmjjijdoaaGreatDoor
open Go.RowKit
theorem rest_att {T : TypeId} {w : World} {base : Nat} {L : Option Addr} {cl i : Nat} {l : List Attr} (h : Own RAttr 3 T w base No (.slice L l.length cl) l) (hi : i ≤ l.length) :
  Src RAttr 3 w No (.slice (if cl = i then L else L.map (·.add (i * 3))) (l.length - i) (cl - i)) (l.drop i) := by
 have h' := h
 obtain ⟨xs, ⟨hl, h1⟩, h2, h3⟩ := h
 rcases h1 with ⟨hv, hn⟩ | ⟨g, cap, cur, hv, hb, hg, hnc, r⟩
 ·simp only [Value.slice.injEq] at hv
  obtain ⟨rfl, -, rfl⟩ := hv
  have hi0 : i = 0 := by omega
  subst hi0
  exact .inl ⟨by simp [hn], by rw [List.eq_nil_of_length_eq_zero hn]; rfl⟩
 ·cases hv
  by_cases hc : cl = i
  ·rw [if_pos hc]
   have : l.drop i = [] := List.drop_of_length_le (by omega)
   rw [this]
   exact .inr ⟨⟨g, 0, none⟩, l.length - i, cl - i, rfl, by simp; omega, fun j y hy => by simp at hy⟩
  ·rw [if_neg hc]
   refine .inr ⟨⟨g, i * 3, none⟩, l.length - i, cl - i, by simp [Addr.add_lit], by simp, fun j y hy => ?_⟩
   rw [List.getElem?_drop] at hy
   obtain ⟨hj, rfl⟩ := List.getElem?_eq_some_iff.1 hy
   obtain ⟨g', cap', ys, hv', _, _, _, _, hr, hcell, _⟩ := h'.at_ hj
   cases hv'
   refine ⟨_, hr, fun u v hu => ?_⟩
   have := hcell u v hu
   rw [Addr.add_lit]
   rw [show i * 3 + (j * 3 + u) = (i + j) * 3 + u by omega]
   exact this
theorem pre_att {T : TypeId} {w : World} {base : Nat} {L : Option Addr} {cl i : Nat} {l : List Attr} (h : Own RAttr 3 T w base No (.slice L l.length cl) l) (hi : i ≤ l.length) :
  Src RAttr 3 w No (.slice L i cl) (l.take i) := by
 have h' := h
 obtain ⟨xs, ⟨hl, h1⟩, h2, h3⟩ := h
 rcases h1 with ⟨hv, hn⟩ | ⟨g, cap, cur, hv, hb, hg, hnc, r⟩
 ·simp only [Value.slice.injEq] at hv
  obtain ⟨rfl, -, rfl⟩ := hv
  have hi0 : i = 0 := by omega
  subst hi0
  exact .inl ⟨rfl, by simp⟩
 ·cases hv
  refine .inr ⟨⟨g, 0, none⟩, i, cl, rfl, by simp; omega, fun j y hy => ?_⟩
  rw [List.getElem?_take] at hy
  split at hy
  ·obtain ⟨hj, rfl⟩ := List.getElem?_eq_some_iff.1 hy
   obtain ⟨g', cap', ys, hv', _, _, _, _, hr, hcell, _⟩ := h'.at_ hj
   cases hv'
   refine ⟨_, hr, fun u v hu => ?_⟩
   rw [Addr.add_lit, Nat.zero_add]
   exact hcell u v hu
  ·cases hy
theorem att_sl_h (A : Option Addr) (n c v : Nat) (hv : v ≤ c) (W : World) : (Instr.slice 82 (.slice A n c) none (some (.int .i64 (v : Int))) none).run Tryz.prog W = .ok (.slice A v c) W := by
 have ht : Tryz.prog.underlying 82 = some (.slice (Tryz.prog.elem 82)) := by kernel_rfl
 refine (run_slice_h (P := Tryz.prog) W 82 A n c ht .i64 (v : Int) (by omega) (by omega)).trans ?_
 have hs : (sizeOf (Tryz.prog.elem 82)).run Tryz.prog W = .ok 3 W := by kernel_rfl
 rw [hs]
 cases A <;> simp [Result.andThen, sliced, Addr.add]
theorem att_sl_l (A : Option Addr) (n c v : Nat) (hv : v ≤ n) (W : World) : (Instr.slice 82 (.slice A n c) (some (.int .i64 (v : Int))) none none).run Tryz.prog W = .ok (.slice (if c = v then A else A.map (·.add (v * 3))) (n - v) (c - v)) W := by
 have ht : Tryz.prog.underlying 82 = some (.slice (Tryz.prog.elem 82)) := by kernel_rfl
 refine (run_slice_l (P := Tryz.prog) W 82 A n c ht .i64 (v : Int) (by omega) (by omega)).trans ?_
 have hs : (sizeOf (Tryz.prog.elem 82)).run Tryz.prog W = .ok 3 W := by kernel_rfl
 rw [hs]
 simp [Result.andThen, sliced]
theorem sort_least {left : List Attr} (hok : ∀ a ∈ left, okA a) {p : Nat} (hp : p < left.length) (hmin : ∀ q (hq : q < left.length), encA left[p] ≤ encA left[q]) :
  sortR left = left[p] :: sortR (left.take p ++ left.drop (p + 1)) := by
 have hperm : (left.take p ++ left.drop (p + 1)).Perm (left.eraseIdx p) := by rw [List.eraseIdx_eq_take_drop_succ]
 have hall : left.Perm (left[p] :: (left.take p ++ left.drop (p + 1))) := by
  have h1 : left = left.take p ++ left[p] :: left.drop (p + 1) := by rw [← List.drop_eq_getElem_cons hp, List.take_append_drop]
  exact (List.Perm.of_eq h1).trans List.perm_middle
 symm
 refine sortR_uniq hok (((sortR_perm _).cons _).trans hall.symm) ?_
 rw [List.pairwise_cons]
 refine ⟨fun b hb => ?_, sortR_pair _⟩
 have hb' : b ∈ left := hall.mem_iff.2 (List.mem_cons_of_mem _ ((sortR_perm _).mem_iff.1 hb))
 obtain ⟨q, hq, rfl⟩ := List.mem_iff_getElem.1 hb'
 have := hmin q hq
 simpa [leL] using this
theorem join_snoc (c : UInt8) : ∀ (l : List (List UInt8)) (x : List UInt8), l ≠ [] → Lib.join (l ++ [x]) [c] = Lib.join l [c] ++ c :: x
  | [], _, h => absurd rfl h
  | [y], x, _ => by
    rw [List.singleton_append, Lib.join_one, Lib.join_cons]
    simp [Lib.joinTail]
  | y :: z :: l, x, _ => by
    have ih := join_snoc c (z :: l) x (by simp)
    rw [List.cons_append, Lib.join_cons, Lib.join_cons] at *
    have e1 : ∀ m : List (List UInt8), Lib.joinTail [c] (z :: m) = c :: (z ++ Lib.joinTail [c] m) := fun m => by simp [Lib.joinTail]
    rw [List.cons_append, e1, e1]
    rw [ih]
    simp
theorem fmtR_snoc (done : List Attr) (a : Attr) : fmtR (done ++ [a]) = (if done = [] then [] else fmtR done ++ [43]) ++ fmtA a := by
 unfold fmtR
 rw [List.map_append, List.map_cons, List.map_nil]
 by_cases h : done = []
 ·subst h; rw [if_pos rfl]; simp [Lib.join_one]
 ·rw [if_neg h, join_snoc 43 _ _ (by simpa using h)]; simp
theorem fmtB_snoc (n : Name) (k : Nat) (h : k < n.length) : fmtB (n.take (k + 1)) = (if k = 0 then [] else fmtB (n.take k) ++ [44]) ++ fmtR (sortR n[k]) := by
 unfold fmtB
 rw [List.take_succ_eq_append_getElem h, List.map_append, List.map_cons, List.map_nil]
 by_cases h0 : k = 0
 ·subst h0; rw [if_pos rfl]; simp [Lib.join_one]
 ·rw [if_neg h0, join_snoc 44 _ _ (by
   intro e
   have := congrArg List.length e
   simp at this
   rcases this with h9 | h9
   ·exact h0 h9
   ·rw [h9] at h; simp at h)]
  simp
structure FnJ (left : List Attr) (p : Nat) (sv pre rest : Value) (w0 : World) (dd : Nat → Bool) (val : Nat → Value) (W : World) : Prop where
 fb : Below w0.heap.size w0 W
 nF : dd 9 = false → val 8 = sv
 v63 : dd 0 = true → val 63 = sv
 v64 : dd 1 = true → val 64 = .int .i64 (p : Int)
 v65 : dd 2 = true → val 65 = pre
 r66 : dd 3 = true → dd 8 = false → Own RAttr 3 84 W w0.heap.size No (val 66) (left.take p)
 v67 : dd 4 = true → val 67 = sv
 v68 : dd 5 = true → val 68 = .int .i64 (p : Int)
 v69 : dd 6 = true → val 69 = .int .i64 ((p + 1 : Nat) : Int)
 v70 : dd 7 = true → val 70 = rest
 r71 : dd 8 = true → Own RAttr 3 84 W w0.heap.size No (val 71) (left.take p ++ left.drop (p + 1))
 vF : dd 9 = true → val 8 = val 71
theorem FnJ.start {left : List Attr} {p : Nat} {sv pre rest : Value} {w0 : World} {val : Nat → Value} (h : val 8 = sv) : FnJ left p sv pre rest w0 (fun _ => false) val w0.drew :=
 ⟨(Below.refl _ _).drew, fun _ => h, nofun, nofun, nofun, nofun, nofun, nofun, nofun, nofun, nofun, nofun⟩
set_option maxRecDepth 100000 in
set_option maxHeartbeats 16000000 in
theorem rFormatName_any (n : Name) (A : Option Addr) (c : Nat) (w : World) (hmx : Mx w) (h : Sl RRdn 1 w (Lt w.heap.size) n [.slice A n.length c]) (hsm : SmallN n) :
    Calls Tryz.prog 34 #[.agg #[.slice A n.length c]] w fun e w' => e = .returned (wrapR (fmtN n)) ∧ Below w.heap.size w w' := by
  have HMX := hide hmx
  have K := hide h
  have HSM := hide hsm
  obtain ⟨o, ho⟩ : ∃ o, fmtN n = o := ⟨_, rfl⟩
  rw [ho]
  have HO := hide ho
  obtain ⟨W0, hW0⟩ : ∃ W, W = w.alloc (.cells #[.slice A n.length c] 24) := ⟨_, rfl⟩
  have hnb : NB w.heap.size (.slice A n.length c) W0 := by rw [hW0]; exact heap_alloc_new w _
  have hb0 : Below w.heap.size w W0 := by rw [hW0]; exact (Below.refl _ _).alloc (Nat.le_refl _) _
  have HNB := hide hnb
  have HB0 := hide hb0
  have HS0 := hide ((Sl.ok RRdn.ok).below h hb0)
  obtain ⟨c0, -⟩ := hnb.facts
  obtain ⟨q, hq⟩ : ∃ q, chkN n = q := ⟨_, rfl⟩
  have HQ := hide hq
  clear hmx h hsm ho hnb hb0 hq
  go_enter Tryz.func34, Tryz.ntmps34
  go_upto_region 1 with fail
  rw [← hW0]
  clear hW0
  go_wp2_with fail
  refine (rCheck_any n A c _ (HMX.out.below HB0.out) HS0.out HSM.out).mono ?_
  rintro e w1 ⟨rfl, hb1⟩
  rw [HQ.out]
  have HB1 := hide (HB0.out.trans (hb1.mono HB0.out.size))
  have HN1 := hide (HNB.out.below hb1)
  clear hb1 c0
  by_cases hq0 : q = 0
  · subst hq0
    have HE := hide (show o = (fmtB n, 0) by rw [← HO.out, fmtN, if_pos HQ.out])
    have HOK := hide ((chkN_iff n).1 HQ.out).2
    have hn8 : n.length ≤ 8 := ((chkN_iff n).1 HQ.out).1
    obtain ⟨c0, -⟩ := HN1.out.facts
    go_wp2_with fail
    go_loopw [5, 25] (fun s i wr => ∃ (k : Nat) (y : ByteArray), k ≤ n.length ∧ i = .int .i64 k ∧ s = .string y ∧ y.size ≤ k * 5210 ∧ Below w.heap.size w wr ∧ Hid (y.data.toList = fmtB (n.take k))) (fun _ i _ => n.length - (intOf i).toNat)
    case atStart => exact ⟨0, ⟨#[]⟩, by omega, rfl, rfl, by simp [ByteArray.size], HB1.out, hide rfl⟩
    case round =>
      obtain ⟨k, y, hk, rfl, rfl, hys, hb, HY⟩ := hrel
      have HB := hide hb
      by_cases hlt : k < n.length
      · obtain ⟨b, off, A2, c2, hA, hbS, d0, hsl⟩ := K.out.rdnAt hlt
        subst hA
        have hokr := HOK.out n[k] (List.getElem_mem hlt)
        have p0 := (hb.cell (p := ⟨b, off + k, none⟩) hbS).trans d0
        have HSTEPK := hide (fmtB_snoc n k hlt)
        obtain ⟨r, hr⟩ : ∃ r, n[k] = r := ⟨_, rfl⟩
        have hslr := (Sl.ok RAttr.ok).below hsl hb
        rw [hr] at p0 hokr hslr HSTEPK
        have HSLR := hide hslr
        have HOKR := hide hokr
        have hr4 : r.length ≤ 4 := hokr.2.1
        have hys8 : y.size ≤ 8 * 5210 := by
          have : k * 5210 ≤ 8 * 5210 := Nat.mul_le_mul_right _ (by omega)
          omega
        clear hb d0 hsl hr hokr hslr
        obtain ⟨w0, rfl⟩ : ∃ wo : World, wo = wr := ⟨_, rfl⟩
        obtain ⟨ys, hyse⟩ : ∃ x : ByteArray, x = if k = 0 then y else y ++ ⟨#[44]⟩ := ⟨_, rfl⟩
        have hyss : ys.size ≤ y.size + 1 := by
          rw [hyse]
          split
          · omega
          · rw [ba_size]; exact Nat.le_refl _
        have HYS := hide (show ys.data.toList = if k = 0 then [] else fmtB (n.take k) ++ [44] by
          rw [hyse]
          split
          · rename_i h0; rw [HY.out, h0]; rfl
          · rw [ba_append, HY.out])
        have HYE := hide hyse
        clear hyse
        go_upto_if 31 with (fail)
        go_cut [5] (fun s wx => s = .string ys ∧ wx = w0)
        case first =>
          by_cases hk0 : k = 0
          · have hki : ¬ (0 : Int) < (k : Int) := by omega
            have HEQ := hide (show y = ys by rw [HYE.out, if_pos hk0])
            clear hk0
            go_wp2_with fail
            go_meet
            exact ⟨by rw [HEQ.out], rfl⟩
          · have hki : (0 : Int) < (k : Int) := by omega
            have hn1 : ¬ 9223372036854775807 < y.size + 1 := by omega
            have HEQ := hide (show y ++ ⟨#[44]⟩ = ys by rw [HYE.out, if_neg hk0])
            clear hk0
            go_wp2_with fail
            go_meet
            exact ⟨by rw [HEQ.out], rfl⟩
        case rest =>
          obtain ⟨rfl, rfl⟩ := hcut
          obtain ⟨bi, hbi⟩ : ∃ b, b = wc.heap.size := ⟨_, rfl⟩
          have hgi0 : bi ≤ wc.heap.size := by omega
          have hbiw : wc.heap.size ≤ bi := by omega
          obtain ⟨w0, rfl⟩ : ∃ wo : World, wo = wc := ⟨_, rfl⟩
          clear hbi HYE
          go_wp2_with (at_builtin; refine wpList_copy RAttr.ok _ rfl (.const (.slice none 0 0)) (.tmp 34) 82 rfl bi 84 (.agg #[.string ⟨#[]⟩, .int .i64 0, .string ⟨#[]⟩]) 40 Tryz.underlying82 info_att rfl (by decide) (Lt w0.heap.size) No (fun _ _ h => h) rfl A2 c2 r rfl HSLR.out (no_lt _) (by omega) (by omega) ?_; intro v1 w3 hown1 hb13 hat1; obtain ⟨A1, c1, hv1⟩ := (hown1.sl RAttr.ok).shape; subst hv1)
          have hz3 := hb13.size
          have HOW3 := hide hown1
          have HB13 := hide hb13
          clear hown1 hb13 hat1
          go_wp2_with fail
          go_loopw [5, 8, 9] (fun s v kv wr => ∃ (kk : Nat) (y2 : ByteArray) (done left : List Attr), s = .string y2 ∧ kv = .int .i64 kk ∧ done.length = kk ∧ kk + left.length = r.length ∧ Own RAttr 3 84 wr bi No v left ∧ Below w0.heap.size w0 wr ∧ bi ≤ wr.heap.size ∧ y2.size ≤ ys.size + kk * 1301 ∧ Hid (sortR r = done ++ sortR left) ∧ Hid (∀ a ∈ left, okA a) ∧ Hid (y2.data.toList = ys.data.toList ++ fmtR done)) (fun _ _ kv _ => r.length - (intOf kv).toNat)
          case atStart => exact ⟨0, ys, [], r, rfl, rfl, rfl, by omega, HOW3.out, HB13.out, by omega, by omega, hide (by simp), hide HOKR.out.2.2.1, hide (by simp [fmtR, Lib.join])⟩
          case round =>
            obtain ⟨kk, y2, done, left, rfl, rfl, hdl, hll, hown, hb4, hg4, hy2s, HSORT, HOKL, HY2⟩ := hrel
            have HB4 := hide hb4
            have HOWN := hide hown
            have HDL := hide hdl
            obtain ⟨A9, c9, hv9⟩ := (hown.sl RAttr.ok).shape
            subst hv9
            have hlc := ((hown.sl RAttr.ok).len_).2.1
            obtain ⟨w4, rfl⟩ : ∃ wo : World, wo = wr := ⟨_, rfl⟩
            by_cases hl0 : 0 < left.length
            · have hl0i : (0 : Int) < (left.length : Int) := by omega
              have hl4 : left.length ≤ 4 := by omega
              have hk4 : kk ≤ 4 := by omega
              have hk13 : kk * 1301 ≤ 4 * 1301 := Nat.mul_le_mul_right _ hk4
              have hy2m : y2.size ≤ 50000 := by omega
              have RAT := hide (rattributes_any left A9 c9 (by omega) HOKL.out w4 ((Sl.ok RAttr.ok).mono (hown.sl RAttr.ok) (S' := Lt w4.heap.size) (fun _ _ => rfl) (fun j hj => by rcases hj with hj | hj; exact hj.elim; exact hj.2)))
              clear hb4 hown hdl
              go_wp2_with fail
              refine RAT.out.mono ?_
              rintro e w5 ⟨Aq, cq, rfl, hsle, hb5⟩
              have HB5 := hide (HB4.out.trans (hb5.mono HB4.out.size))
              have HOW5 := hide (HOWN.out.below RAttr.ok (no_lt _) hb5)
              have hz5 := hb5.size
              obtain ⟨bq, oq, -, hAq, -⟩ := hsle.at_ (i := 0) (by rw [List.length_map]; exact hl0)
              subst hAq
              have HEL := hide (show ∀ i (hi : i < left.length), ∃ x : ByteArray, x.data.toList = encA left[i] ∧ w5.cell? ⟨bq, oq + i, none⟩ = some (.string x) from fun i hi => by
                obtain ⟨b8, o8, x8, hA8, -, hr8, hc8⟩ := hsle.at_ (i := i) (by rw [List.length_map]; exact hi)
                cases hA8
                have hr8' : x8 = strC ((left.map encA)[i]'(by rw [List.length_map]; exact hi)) := hr8
                subst hr8'
                have := hc8 0 _ rfl
                rw [Nat.mul_one, Nat.add_zero, List.getElem_map] at this
                exact ⟨_, rfl, this⟩)
              clear hb5 hsle
              go_wp2_with fail
              go_loopw [10, 45] (fun lv iv wj => ∃ (p q : Nat) (hp : p < left.length), q ≤ left.length ∧ lv = .int .i64 p ∧ iv = .int .i64 q ∧ (∃ nd, wj = w5.drewN nd) ∧ Hid (∀ t (ht : t < left.length), t < q → encA left[p] ≤ encA left[t])) (fun _ iv _ => left.length - (intOf iv).toNat)
              case atStart => exact ⟨0, 0, hl0, by omega, rfl, rfl, ⟨0, rfl⟩, hide (fun t ht h => by omega)⟩
              case round =>
                obtain ⟨p, q, hp, hq, rfl, rfl, ⟨nd, rfl⟩, HMIN⟩ := hrel
                by_cases hql : q < left.length
                · obtain ⟨xq, hxq, dq⟩ := HEL.out q hql
                  obtain ⟨xp, hxp, dp⟩ := HEL.out p hp
                  have q1 : (q : Int) < (left.length : Int) := by omega
                  have p1 : (p : Int) < (left.length : Int) := by omega
                  have HXQ := hide hxq
                  have HXP := hide hxp
                  have hbl : Op.bytesLess xq.toList xp.toList = decide (encA left[q] < encA left[p]) := by
                    rw [Go.Proofs.bytesLess_eq, ByteArray.toList_eq, ByteArray.toList_eq, hxq, hxp]
                  clear hxq hxp
                  by_cases hc : encA left[q] < encA left[p]
                  · have hbt : Op.bytesLess xq.toList xp.toList = true := by rw [hbl, decide_eq_true hc]
                    have HC := hide hc
                    clear hbl hc
                    go_wp2_with fail
                    go_quiet (fail)
                    go_wp2_with fail
                    go_roundw
                    case rel => exact ⟨q, q + 1, hql, by omega, rfl, by go_num, ⟨_, rfl⟩, hide (fun t ht h => by
                      by_cases htq : t = q
                      · subst htq; exact List.le_refl _
                      · exact List.le_trans (List.le_of_lt HC.out) (HMIN.out t ht (by omega)))⟩
                    case measure => simp [intOf]; omega
                  · have hbt : Op.bytesLess xq.toList xp.toList = false := by rw [hbl, decide_eq_false hc]
                    have HC := hide hc
                    clear hbl hc
                    go_wp2_with fail
                    go_quiet (fail)
                    go_wp2_with fail
                    go_roundw
                    case rel => exact ⟨p, q + 1, hp, by omega, rfl, by go_num, ⟨_, rfl⟩, hide (fun t ht h => by
                      by_cases htq : t = q
                      · subst htq; exact List.not_lt.1 HC.out
                      · exact HMIN.out t ht (by omega))⟩
                    case measure => simp [intOf]; omega
                · have HLST := hide (sort_least HOKL.out hp (fun t ht => HMIN.out t ht (by omega)))
                  have HOW6 := hide (show Own RAttr 3 84 (w5.drewN nd) bi No (.slice A9 left.length c9) left from Own.drewN RAttr.ok HOW5.out nd)
                  have HB6 := hide (show Below w0.heap.size w0 (w5.drewN nd) from below_drewN HB5.out nd)
                  obtain ⟨w6, hw6⟩ : ∃ W, W = w5.drewN nd := ⟨_, rfl⟩
                  have hz6 : bi ≤ w6.heap.size := by rw [hw6]; show bi ≤ w5.heap.size; omega
                  rw [← hw6] at HOW6 HB6 ⊢
                  obtain ⟨gL, capL, xsL, hvL, -, -, -, -, hrL, hcL, -⟩ := HOW6.out.at_ hp
                  have hrL' : xsL = attC left[p] := hrL
                  subst hrL'
                  obtain ⟨rfl, -⟩ : A9 = some ⟨gL, 0, none⟩ ∧ c9 = capL := by simpa using hvL
                  have hoka := HOKL.out left[p] (List.getElem_mem hp)
                  have HPERM := hide (show ∀ a ∈ left.take p ++ left.drop (p + 1), okA a from fun a ha => by
                    rcases List.mem_append.1 ha with ha | ha
                    · exact HOKL.out a (List.mem_of_mem_take ha)
                    · exact HOKL.out a (List.mem_of_mem_drop ha))
                  obtain ⟨⟨at_, kd, av⟩, hel⟩ : ∃ a, left[p] = a := ⟨_, rfl⟩
                  rw [hel] at hcL hoka HLST
                  obtain ⟨t, ht⟩ : ∃ x : ByteArray, x = ⟨at_.toArray⟩ := ⟨_, rfl⟩
                  obtain ⟨v, hv⟩ : ∃ x : ByteArray, x = ⟨av.toArray⟩ := ⟨_, rfl⟩
                  have htd : at_ = t.data.toList := by rw [ht]
                  have hvd : av = v.data.toList := by rw [hv]
                  have d0 : w6.cell? ⟨gL, p * 3, none⟩ = some (.string t) := by rw [ht]; exact hcL 0 _ rfl
                  have d1 : w6.cell? ⟨gL, p * 3 + 1, none⟩ = some (.int .i64 kd) := hcL 1 _ rfl
                  have d2 : w6.cell? ⟨gL, p * 3 + 2, none⟩ = some (.string v) := by rw [hv]; exact hcL 2 _ rfl
                  rw [htd, hvd] at hoka HLST
                  have HOKA := hide hoka
                  have hts : t.size ≤ 1000 := by rw [← size_string]; exact valid_len hoka.1
                  have hvs : v.size ≤ 64 := by rw [← size_string]; exact hoka.2.2.2
                  obtain ⟨ev, hev⟩ : ∃ x : ByteArray, x = ⟨(v.data.toList.flatMap escB).toArray⟩ := ⟨_, rfl⟩
                  have hevs : ev.size ≤ 192 := by
                    rw [hev, ba_mk]
                    have := escBs_len v.data.toList
                    rw [size_string] at this
                    omega
                  have HES := hide (show ∀ W : World, Calls Tryz.prog 32 #[.string v] W fun e9 w' => e9 = .returned (.string ev) ∧ Below W.heap.size W w' from fun W => hev ▸ rEscape_any v (by omega) W)
                  have HEVL := hide (show ev.data.toList = v.data.toList.flatMap escB by rw [hev])
                  obtain ⟨w8, hw8⟩ : ∃ W, W = w6.alloc (.cells #[.string t, .int .i64 kd, .string v] 84) := ⟨_, rfl⟩
                  have hAB : AtB w6.heap.size t kd v w8 := by rw [hw8]; exact AtB.new w6 _ _ _
                  have hb68 : Below w6.heap.size w6 w8 := by rw [hw8]; exact (Below.refl _ _).alloc (Nat.le_refl _) _
                  obtain ⟨ga, hga⟩ : ∃ g, w6.heap.size = g := ⟨_, rfl⟩
                  rw [hga] at hAB
                  have HAB := hide hAB
                  have HOW8 := hide (HOW6.out.below RAttr.ok (no_lt _) hb68)
                  have HB8 := hide (HB6.out.trans (hb68.mono HB6.out.size))
                  have hz8 : bi ≤ w8.heap.size := by have := hb68.size; omega
                  have p1 : (p : Int) < (left.length : Int) := by omega
                  clear hw6 hcL hrL hvL hel ht hv htd hvd hoka hev hAB hb68
                  go_upto_region 23 with fail
                  rw [← hw8]
                  try rw [hga]
                  clear hw8 hga d0 d1 d2 p1
                  obtain ⟨xv, hxv⟩ : ∃ xv, (Value.slice (if c9 = p + 1 then some ⟨gL, 0, none⟩ else Option.map (fun x : Addr => x.add ((p + 1) * 3)) (some ⟨gL, 0, none⟩)) (left.length - (p + 1)) (c9 - (p + 1))) = xv := ⟨_, rfl⟩
                  have SL1 := hide (fun W => att_sl_h (some ⟨gL, 0, none⟩) left.length c9 p (by omega) W)
                  have SL2 := hide (show ∀ W, (Instr.slice 82 (.slice (some ⟨gL, 0, none⟩) left.length c9) (some (.int .i64 ((p + 1 : Nat) : Int))) none none).run Tryz.prog W = .ok xv W from fun W => hxv ▸ att_sl_l (some ⟨gL, 0, none⟩) left.length c9 (p + 1) (by omega) W)
                  have SRC1 := hide (fun W (hb : Below w8.heap.size w8 W) => pre_att (HOW8.out.below RAttr.ok (no_lt _) hb) (show p ≤ left.length by omega))
                  have SRC2 := hide (show ∀ W, Below w8.heap.size w8 W → Src RAttr 3 W No xv (left.drop (p + 1)) from fun W hb => hxv ▸ rest_att (HOW8.out.below RAttr.ok (no_lt _) hb) (show p + 1 ≤ left.length by omega))
                  have HPB := hide (show IntKind.i64.wrap ((p : Int) + 1) = (p : Int) + 1 from IntWalk.i64_in _ (by omega))
                  have htl : (left.take p).length ≤ 4 := by rw [List.length_take]; omega
                  have hdl4 : (left.drop (p + 1)).length ≤ 4 := by rw [List.length_drop]; omega
                  clear hxv
                  refine region_inv3 [63, 64, 65, 66, 67, 68, 69, 70, 71, 8] (FnJ left p (.slice (some ⟨gL, 0, none⟩) left.length c9) (.slice (some ⟨gL, 0, none⟩) p c9) xv w8) (by kernel_rfl) (by kernel_rfl) (fun val hval => FnJ.start (slot_eqF ((putF_get [63, 64, 65, 66, 67, 68, 69, 70, 71, 8] val 8 _ (by simp)).trans (if_pos (by decide))) hval rfl)) ⟨?_, ?_, ?_, ?_, ?_, ?_, ?_, ?_, ?_, ?_, trivial⟩ ?_
                  · refine ⟨fun s hs => by cases hs <;> decide, ?_⟩
                    rintro dd val W hJ hd hdep hcl K hK
                    rw [if_pos (by rfl)]
                    dsimp only [putF, List.foldl, Act.put] at hK ⊢
                    simp only [List.setIfInBounds_toArray, List.set_cons_zero, List.set_cons_succ] at hK ⊢
                    have nF := hJ.nF (by
                      cases h : dd 9 with
                      | false => rfl
                      | true =>
                        have c8 := hcl 9 _ rfl h ⟨8, .data⟩ (by simp) rfl
                        have c3 := hcl 8 _ rfl c8 ⟨3, .data⟩ (by simp) rfl
                        have c2 := hcl 3 _ rfl c3 ⟨2, .data⟩ (by simp) rfl
                        have c0 := hcl 2 _ rfl c2 ⟨0, .data⟩ (by simp) rfl
                        rw [hd] at c0; cases c0)
                    simp only [nF] at hK ⊢
                    go_simp
                    exact hK.out _ _ { fb := hJ.fb, nF := hJ.nF, v63 := fun _ => rfl, v64 := hJ.v64, v65 := hJ.v65, r66 := hJ.r66, v67 := hJ.v67, v68 := hJ.v68, v69 := hJ.v69, v70 := hJ.v70, r71 := hJ.r71, vF := hJ.vF }
                  · refine ⟨fun s hs => by cases hs <;> decide, ?_⟩
                    rintro dd val W hJ hd hdep hcl K hK
                    rw [if_pos (by rfl)]
                    dsimp only [putF, List.foldl, Act.put] at hK ⊢
                    simp only [List.setIfInBounds_toArray, List.set_cons_zero, List.set_cons_succ] at hK ⊢
                    go_simp
                    exact hK.out _ _ { fb := hJ.fb, nF := hJ.nF, v63 := hJ.v63, v64 := fun _ => rfl, v65 := hJ.v65, r66 := hJ.r66, v67 := hJ.v67, v68 := hJ.v68, v69 := hJ.v69, v70 := hJ.v70, r71 := hJ.r71, vF := hJ.vF }
                  · refine ⟨fun s hs => by cases hs <;> decide, ?_⟩
                    rintro dd val W hJ hd hdep hcl K hK
                    rw [if_pos (by rfl)]
                    dsimp only [putF, List.foldl, Act.put] at hK ⊢
                    simp only [List.setIfInBounds_toArray, List.set_cons_zero, List.set_cons_succ] at hK ⊢
                    have e63 := hJ.v63 (hdep ⟨0, .data⟩ (by simp) rfl)
                    have e64 := hJ.v64 (hdep ⟨1, .data⟩ (by simp) rfl)
                    simp only [e63, e64] at hK ⊢
                    have q1 := SL1.out W
                    go_simp
                    exact hK.out _ _ { fb := hJ.fb, nF := hJ.nF, v63 := hJ.v63, v64 := hJ.v64, v65 := fun _ => rfl, r66 := hJ.r66, v67 := hJ.v67, v68 := hJ.v68, v69 := hJ.v69, v70 := hJ.v70, r71 := hJ.r71, vF := hJ.vF }
                  · refine ⟨fun s hs => by cases hs <;> decide, ?_⟩
                    rintro dd val W hJ hd hdep hcl K hK
                    rw [if_pos (by rfl)]
                    dsimp only [putF, List.foldl, Act.put] at hK ⊢
                    simp only [List.setIfInBounds_toArray, List.set_cons_zero, List.set_cons_succ] at hK ⊢
                    have e65 := hJ.v65 (hdep ⟨2, .data⟩ (by simp) rfl)
                    simp only [e65] at hK ⊢
                    refine wp_apps RAttr.ok W (.const (.slice none 0 0)) (.tmp 65) 82 rfl w8.heap.size 84 (.agg #[.string ⟨#[]⟩, .int .i64 0, .string ⟨#[]⟩]) 40 Tryz.underlying82 info_att rfl (by decide) No (.slice none 0 0) [] rfl (Own.nil _ _ _ _ _ _) (.slice (some ⟨gL, 0, none⟩) p c9) (left.take p) rfl (SRC1.out W hJ.fb) (no_lt _) (by simp; omega) (by simp [maxLen]; omega) hJ.fb.size ?_
                    intro v7 w7 hown7 hgr7 hb7 hat7
                    have hbw : Below W.heap.size W w7 := ⟨hgr7.os, hgr7.tape, hgr7.output, hgr7.size, fun k hk => hgr7.block k hk (by simp [Value.ownBlock])⟩
                    rw [List.nil_append] at hown7
                    exact hK.out _ _ { fb := hJ.fb.trans (hbw.mono hJ.fb.size), nF := hJ.nF, v63 := hJ.v63, v64 := hJ.v64, v65 := hJ.v65, r66 := fun _ _ => hown7, v67 := hJ.v67, v68 := hJ.v68, v69 := hJ.v69, v70 := hJ.v70, r71 := fun h => (by have c3 := hcl 8 _ rfl h ⟨3, .data⟩ (by simp) rfl; rw [hd] at c3; cases c3), vF := hJ.vF }
                  · refine ⟨fun s hs => by cases hs <;> decide, ?_⟩
                    rintro dd val W hJ hd hdep hcl K hK
                    rw [if_pos (by rfl)]
                    dsimp only [putF, List.foldl, Act.put] at hK ⊢
                    simp only [List.setIfInBounds_toArray, List.set_cons_zero, List.set_cons_succ] at hK ⊢
                    have nF := hJ.nF (by
                      cases h : dd 9 with
                      | false => rfl
                      | true =>
                        have c8 := hcl 9 _ rfl h ⟨8, .data⟩ (by simp) rfl
                        have c7 := hcl 8 _ rfl c8 ⟨7, .data⟩ (by simp) rfl
                        have c4 := hcl 7 _ rfl c7 ⟨4, .data⟩ (by simp) rfl
                        rw [hd] at c4; cases c4)
                    simp only [nF] at hK ⊢
                    go_simp
                    exact hK.out _ _ { fb := hJ.fb, nF := hJ.nF, v63 := hJ.v63, v64 := hJ.v64, v65 := hJ.v65, r66 := hJ.r66, v67 := fun _ => rfl, v68 := hJ.v68, v69 := hJ.v69, v70 := hJ.v70, r71 := hJ.r71, vF := hJ.vF }
                  · refine ⟨fun s hs => by cases hs <;> decide, ?_⟩
                    rintro dd val W hJ hd hdep hcl K hK
                    rw [if_pos (by rfl)]
                    dsimp only [putF, List.foldl, Act.put] at hK ⊢
                    simp only [List.setIfInBounds_toArray, List.set_cons_zero, List.set_cons_succ] at hK ⊢
                    go_simp
                    exact hK.out _ _ { fb := hJ.fb, nF := hJ.nF, v63 := hJ.v63, v64 := hJ.v64, v65 := hJ.v65, r66 := hJ.r66, v67 := hJ.v67, v68 := fun _ => rfl, v69 := hJ.v69, v70 := hJ.v70, r71 := hJ.r71, vF := hJ.vF }
                  · refine ⟨fun s hs => by cases hs <;> decide, ?_⟩
                    rintro dd val W hJ hd hdep hcl K hK
                    rw [if_pos (by rfl)]
                    dsimp only [putF, List.foldl, Act.put] at hK ⊢
                    simp only [List.setIfInBounds_toArray, List.set_cons_zero, List.set_cons_succ] at hK ⊢
                    have e68 := hJ.v68 (hdep ⟨5, .data⟩ (by simp) rfl)
                    simp only [e68] at hK ⊢
                    have q1 := HPB.out
                    go_simp
                    exact hK.out _ _ { fb := hJ.fb, nF := hJ.nF, v63 := hJ.v63, v64 := hJ.v64, v65 := hJ.v65, r66 := hJ.r66, v67 := hJ.v67, v68 := hJ.v68, v69 := fun _ => by show Value.int .i64 ((p : Int) + 1) = _; simp, v70 := hJ.v70, r71 := hJ.r71, vF := hJ.vF }
                  · refine ⟨fun s hs => by cases hs <;> decide, ?_⟩
                    rintro dd val W hJ hd hdep hcl K hK
                    rw [if_pos (by rfl)]
                    dsimp only [putF, List.foldl, Act.put] at hK ⊢
                    simp only [List.setIfInBounds_toArray, List.set_cons_zero, List.set_cons_succ] at hK ⊢
                    have e67 := hJ.v67 (hdep ⟨4, .data⟩ (by simp) rfl)
                    have e69 := hJ.v69 (hdep ⟨6, .data⟩ (by simp) rfl)
                    simp only [e67, e69] at hK ⊢
                    have q1 := SL2.out W
                    rw [show ((p + 1 : Nat) : Int) = (p : Int) + 1 by simp] at q1 hK ⊢
                    go_simp
                    exact hK.out _ _ { fb := hJ.fb, nF := hJ.nF, v63 := hJ.v63, v64 := hJ.v64, v65 := hJ.v65, r66 := hJ.r66, v67 := hJ.v67, v68 := hJ.v68, v69 := hJ.v69, v70 := fun _ => rfl, r71 := hJ.r71, vF := hJ.vF }
                  · refine ⟨fun s hs => by cases hs <;> decide, ?_⟩
                    rintro dd val W hJ hd hdep hcl K hK
                    rw [if_pos (by rfl)]
                    dsimp only [putF, List.foldl, Act.put] at hK ⊢
                    simp only [List.setIfInBounds_toArray, List.set_cons_zero, List.set_cons_succ] at hK ⊢
                    have e70 := hJ.v70 (hdep ⟨7, .data⟩ (by simp) rfl)
                    have d3 := hdep ⟨3, .data⟩ (by simp) rfl
                    have hown := hJ.r66 d3 hd
                    simp only [e70] at hK ⊢
                    refine wp_apps RAttr.ok W (.tmp 66) (.tmp 70) 82 rfl w8.heap.size 84 (.agg #[.string ⟨#[]⟩, .int .i64 0, .string ⟨#[]⟩]) 40 Tryz.underlying82 info_att rfl (by decide) No (val 66) (left.take p) rfl hown xv (left.drop (p + 1)) rfl (SRC2.out W hJ.fb) (no_lt _) (by simp; omega) (by simp [maxLen]; omega) hJ.fb.size ?_
                    intro v7 w7 hown7 hgr7 hb7 hat7
                    exact hK.out _ _ { fb := hJ.fb.trans hb7, nF := hJ.nF, v63 := hJ.v63, v64 := hJ.v64, v65 := hJ.v65, r66 := fun _ h => (by cases h), v67 := hJ.v67, v68 := hJ.v68, v69 := hJ.v69, v70 := hJ.v70, r71 := fun _ => hown7, vF := fun h => (by have c8 := hcl 9 _ rfl h ⟨8, .data⟩ (by simp) rfl; rw [hd] at c8; cases c8) }
                  · refine ⟨fun s hs => by cases hs <;> decide, ?_⟩
                    rintro dd val W hJ hd hdep hcl K hK
                    rw [if_pos (by rfl)]
                    dsimp only [putF, List.foldl, Act.put] at hK ⊢
                    simp only [List.setIfInBounds_toArray, List.set_cons_zero, List.set_cons_succ] at hK ⊢
                    go_simp
                    exact hK.out _ _ { fb := hJ.fb, nF := fun h => (by cases h), v63 := hJ.v63, v64 := hJ.v64, v65 := hJ.v65, r66 := hJ.r66, v67 := hJ.v67, v68 := hJ.v68, v69 := hJ.v69, v70 := hJ.v70, r71 := hJ.r71, vF := fun _ => rfl }
                  · intro dd val W hall hJ
                    have hown := hJ.r71 (hall 8 (by decide))
                    have e3 := hJ.vF (hall 9 (by decide))
                    have hbw := hJ.fb
                    obtain ⟨v8, hv8⟩ : ∃ v, val 71 = v := ⟨_, rfl⟩
                    rw [hv8] at hown e3
                    dsimp only [putF, List.foldl, Act.put]
                    simp only [List.setIfInBounds_toArray, List.set_cons_zero, List.set_cons_succ, hv8, e3]
                    have HF := hide (hown.lower9 hz8)
                    have HB9 := hide (HB8.out.trans (hbw.mono HB8.out.size))
                    have HAB9 := hide (HAB.out.below hbw)
                    have hz9 : bi ≤ W.heap.size := by have := hbw.size; omega
                    obtain ⟨A7, c7, hv7⟩ := (hown.sl RAttr.ok).shape
                    obtain ⟨n7, hn7⟩ : ∃ n7, (left.take p ++ left.drop (p + 1)).length = n7 := ⟨_, rfl⟩
                    have hn7e : n7 + 1 = left.length := by rw [← hn7, List.length_append, List.length_take, List.length_drop]; omega
                    rw [hn7] at hv7
                    subst hv7
                    clear hn7 hown hbw hJ hall e3 SL1 SL2 SRC1 SRC2 HPB
                    obtain ⟨w9, rfl⟩ : ∃ wo : World, wo = W := ⟨_, rfl⟩
                    obtain ⟨y3, hy3e⟩ : ∃ x : ByteArray, x = if kk = 0 then y2 else y2 ++ ⟨#[43]⟩ := ⟨_, rfl⟩
                    have hy3s : y3.size ≤ y2.size + 1 := by
                      rw [hy3e]
                      split
                      · omega
                      · rw [ba_size]; exact Nat.le_refl _
                    have HY3 := hide (show y3.data.toList = ys.data.toList ++ (if done = [] then [] else fmtR done ++ [43]) by
                      rw [hy3e]
                      by_cases h0 : kk = 0
                      · have hd0 : done = [] := List.eq_nil_of_length_eq_zero (by rw [HDL.out, h0])
                        rw [if_pos h0, if_pos hd0, HY2.out, hd0]
                        simp [fmtR, Lib.join]
                      · have hd0 : done ≠ [] := fun e => h0 (by rw [← HDL.out, e]; rfl)
                        rw [if_neg h0, if_neg hd0, ba_append, HY2.out, List.append_assoc])
                    have HY3E := hide hy3e
                    clear hy3e
                    go_upto_if 73 with (fail)
                    go_cut [5] (fun s wx => s = .string y3 ∧ wx = w9)
                    case first =>
                      by_cases hk0 : kk = 0
                      · have hki : ¬ (0 : Int) < (kk : Int) := by omega
                        have HEQ := hide (show y2 = y3 by rw [HY3E.out, if_pos hk0])
                        clear hk0
                        go_wp2_with fail
                        go_meet
                        exact ⟨by rw [HEQ.out], rfl⟩
                      · have hki : (0 : Int) < (kk : Int) := by omega
                        have hn1 : ¬ 9223372036854775807 < y2.size + 1 := by omega
                        have HEQ := hide (show y2 ++ ⟨#[43]⟩ = y3 by rw [HY3E.out, if_neg hk0])
                        clear hk0
                        go_wp2_with fail
                        go_meet
                        exact ⟨by rw [HEQ.out], rfl⟩
                    case rest =>
                      obtain ⟨rfl, rfl⟩ := hcut
                      obtain ⟨w9, rfl⟩ : ∃ wo : World, wo = wc := ⟨_, rfl⟩
                      clear HY3E
                      obtain ⟨z0, -, -, -, -, -⟩ := HAB9.out.facts
                      go_wp2_with fail
                      refine (rshort_any _).mono ?_
                      rintro e wA ⟨gs, rfl, -, hbA, -, hslA⟩
                      have HBA := hide (HB9.out.trans (hbA.mono HB9.out.size))
                      have HABA := hide (HAB9.out.below hbA)
                      have HSLA := hide hslA
                      have HFA := hide (HF.out.below RAttr.ok (no_lt _) hbA)
                      have hzA : bi ≤ wA.heap.size := by have := hbA.size; omega
                      clear hbA hslA z0
                      go_wp2_with fail
                      go_loopw [14, 16] (fun tv jv wj => ∃ (m : Nat) (x : ByteArray), m ≤ 7 ∧ jv = .int .i64 ((2 * m : Nat) : Int) ∧ tv = .string x ∧ x.size ≤ 1000 ∧ (∃ nd, wj = wA.drewN nd) ∧ Hid (wordL (shortTab.drop m) t.data.toList x.data.toList = wordF t.data.toList)) (fun _ jv _ => 14 - (intOf jv).toNat)
                      case atStart => exact ⟨0, t, by omega, rfl, rfl, hts, ⟨0, rfl⟩, hide rfl⟩
                      case round =>
                        obtain ⟨m, x, hm, rfl, rfl, hxs, ⟨ne, rfl⟩, HX⟩ := hrel
                        by_cases hm7 : m < 7
                        · have hml : m < shortTab.length := hm7
                          obtain ⟨u, hu⟩ : ∃ u, u = 2 * m := ⟨_, rfl⟩
                          obtain ⟨hs0, hs1⟩ := shortF_at m hm7
                          have HSA := hide (show ∀ i (x : List UInt8), shortF[i]? = some x → wA.cell? ⟨gs, i, none⟩ = some (.string ⟨x.toArray⟩) from fun i x hi => by
                            obtain ⟨hil, hie⟩ := List.getElem?_eq_some_iff.1 hi
                            obtain ⟨b8, o8, x8, hA8, -, hr8, hc8⟩ := HSLA.out.at_ hil
                            cases hA8
                            have hr8' : x8 = strC shortF[i] := hr8
                            subst hr8'
                            have := hc8 0 _ rfl
                            rw [Nat.mul_one, Nat.add_zero, Nat.zero_add, hie] at this
                            exact this)
                          have hgd : shortTab.getD m ([], []) = shortTab[m] := by simp [List.getD, List.getElem?_eq_getElem hml]
                          rw [hgd] at hs0 hs1
                          obtain ⟨sa, hsa⟩ : ∃ x : ByteArray, x = ⟨shortTab[m].1.toArray⟩ := ⟨_, rfl⟩
                          obtain ⟨sb, hsb⟩ : ∃ x : ByteArray, x = ⟨shortTab[m].2.toArray⟩ := ⟨_, rfl⟩
                          have hsas : sa.size ≤ 1000 := by rw [hsa, ba_mk]; exact short_len _ (List.getElem_mem hml)
                          have d0 := HSA.out _ _ hs0
                          have d1 := HSA.out _ _ hs1
                          rw [← hsa, ← hu] at d0
                          rw [← hsb, ← hu] at d1
                          have HNEXT := hide (show wordL (shortTab.drop (m + 1)) t.data.toList (if sb.data.toList = t.data.toList then sa.data.toList else x.data.toList) = wordF t.data.toList by
                            rw [← HX.out, wordL_at hml, hsa, hsb])
                          have z0 : wA.cell? ⟨ga, 0, none⟩ = some (.string t) := HABA.out.facts.1
                          have hu14 : (u : Int) < 14 := by omega
                          have hu15 : (u : Int) + 1 < 14 := by omega
                          have HU := hide hu
                          rw [← hu]
                          clear hs0 hs1 hgd hsa hsb hu
                          by_cases heq : sb.toList = t.toList
                          · have t1 : (sb.toList == t.toList) = true := by simpa using heq
                            have HEQ := hide ((str_eq sb t).1 heq)
                            clear heq
                            go_wp2_with fail
                            go_quiet (fail)
                            go_wp2_with fail
                            go_roundw
                            case rel => exact ⟨m + 1, sa, by omega, by rw [show 2 * (m + 1) = u + 2 by have := HU.out; omega]; go_num, rfl, hsas, ⟨_, rfl⟩, hide (by have := HNEXT.out; rwa [if_pos HEQ.out] at this)⟩
                            case measure => simp [intOf]; omega
                          · have t1 : (sb.toList == t.toList) = false := by simpa using heq
                            have HEQ := hide (fun h => heq ((str_eq sb t).2 h))
                            clear heq
                            go_wp2_with fail
                            go_quiet (fail)
                            go_wp2_with fail
                            go_roundw
                            case rel => exact ⟨m + 1, x, by omega, by rw [show 2 * (m + 1) = u + 2 by have := HU.out; omega]; go_num, rfl, hxs, ⟨_, rfl⟩, hide (by have := HNEXT.out; rwa [if_neg HEQ.out] at this)⟩
                            case measure => simp [intOf]; omega
                        · obtain rfl : m = 7 := by omega
                          have hxw : x.data.toList = wordF t.data.toList := HX.out
                          obtain ⟨x1, hx1⟩ : ∃ z : ByteArray, x ++ ⟨#[61]⟩ = z := ⟨_, rfl⟩
                          obtain ⟨x2, hx2⟩ : ∃ z : ByteArray, x1 ++ ev = z := ⟨_, rfl⟩
                          obtain ⟨y4, hy4⟩ : ∃ z : ByteArray, y3 ++ x2 = z := ⟨_, rfl⟩
                          have h1s : x1.size = x.size + 1 := by rw [← hx1, ba_size]; rfl
                          have h2s : x2.size = x1.size + ev.size := by rw [← hx2, ba_size]
                          have h4s : y4.size = y3.size + x2.size := by rw [← hy4, ba_size]
                          have hn1 : ¬ 9223372036854775807 < x.size + 1 := by omega
                          have hn2 : ¬ 9223372036854775807 < x1.size + ev.size := by omega
                          have hn3 : ¬ 9223372036854775807 < y3.size + x2.size := by omega
                          have HFA2 := hide (show x2.data.toList = fmtA (t.data.toList, kd, v.data.toList) by
                            rw [← hx2, ← hx1, ba_append, ba_append, hxw, HEVL.out, fmtA]
                            simp)
                          have HYF := hide (show y4.data.toList = ys.data.toList ++ fmtR (done ++ [(t.data.toList, kd, v.data.toList)]) by
                            rw [← hy4, ba_append, HY3.out, HFA2.out, fmtR_snoc, List.append_assoc])
                          have z2 : (wA.drewN ne).cell? ⟨ga, 2, none⟩ = some (.string v) := HABA.out.facts.2.2.1
                          have HFD := hide (show Own RAttr 3 84 (wA.drewN ne) bi No (.slice A7 n7 c7) (left.take p ++ left.drop (p + 1)) from Own.drewN RAttr.ok HFA.out ne)
                          have HBD := hide (show Below w0.heap.size w0 (wA.drewN ne) from below_drewN HBA.out ne)
                          have hy4b : y4.size ≤ ys.size + (kk + 1) * 1301 := by rw [Nat.add_mul]; omega
                          obtain ⟨wB, hwB⟩ : ∃ W, W = wA.drewN ne := ⟨_, rfl⟩
                          have hzB : bi ≤ wB.heap.size := by rw [hwB]; exact hzA
                          rw [← hwB] at z2 HFD HBD ⊢
                          have HS4 := hide h4s
                          clear hwB hxw h1s h2s h4s
                          rw [show ((2 * 7 : Nat) : Int) = 14 from rfl]
                          go_wp2_with fail
                          refine (HES.out wB).mono ?_
                          rintro e wC ⟨rfl, hbC⟩
                          have HFC := hide (HFD.out.below RAttr.ok (no_lt _) hbC)
                          have HBC := hide (HBD.out.trans (hbC.mono HBD.out.size))
                          have hzC : bi ≤ wC.heap.size := by have := hbC.size; omega
                          clear hbC z2
                          go_wp2_with fail
                          go_roundw
                          case rel => exact ⟨kk + 1, y4, done ++ [(t.data.toList, kd, v.data.toList)], left.take p ++ left.drop (p + 1), rfl, by go_num, by rw [List.length_append, HDL.out]; rfl, by rw [List.length_append, List.length_take, List.length_drop]; omega, HFC.out, HBC.out, hzC, hy4b, hide (by rw [HSORT.out, HLST.out, List.append_assoc, List.singleton_append]), HPERM, HYF⟩
                          case measure => simp [intOf]; omega
            · have hle : left = [] := List.eq_nil_of_length_eq_zero (by omega)
              have HYY := hide (show y2.data.toList = fmtB (n.take (k + 1)) by
                have hs := HSORT.out
                rw [hle, show sortR [] = [] by simp [sortR], List.append_nil] at hs
                rw [HY2.out, HYS.out, HSTEPK.out, hs])
              have hk13 : kk * 1301 ≤ 4 * 1301 := Nat.mul_le_mul_right _ (by omega)
              have hlz : ¬ (0 : Int) < (left.length : Int) := by omega
              have HBW := hide (HB.out.trans (HB4.out.mono HB.out.size))
              have hyk : y2.size ≤ (k + 1) * 5210 := by rw [Nat.add_mul]; omega
              clear hb4 hown hdl hle hk13
              go_wp2_with fail
              go_roundw
              case rel => exact ⟨k + 1, y2, by omega, by go_num, rfl, hyk, HBW.out, HYY⟩
              case measure => simp [intOf]; omega
      · have hnk : n.take k = n := List.take_of_length_le (by omega)
        have HEE := hide (show wrapR o = .tuple #[.string y, .int .i64 0] by
          rw [HE.out, wrapR]
          have := HY.out
          rw [hnk] at this
          rw [← this])
        clear hnk hb
        go_wp2_with fail
        go_ret2
        exact ⟨by rw [HEE.out]; rfl, HB.out⟩
  · have ht : (q != 0) = true := by simp [hq0]
    have HN := hide (show o = ([], q) by rw [← HO.out, fmtN, if_neg (by rw [HQ.out]; exact hq0), HQ.out])
    clear hq0
    go_wp2_with fail
    go_ret2
    exact ⟨by rw [HN.out]; rfl, HB1.out⟩
end Go.Proofs.YtmgnihmjjijdoaaGreatDoor
