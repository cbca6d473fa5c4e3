/- Elements: the walk of tlv.Read. -/
import Derived.Test.YtbafpgdmnkkclaaDoorTlvP
import Derived.Test.YtbafpgdmnkkclaaDoorBitA
import Derived.Deep.LoopGhost
import Derived.Deep.Cut
import Derived.BigRegion
namespace Go.Proofs.YtbafpgdmnkkclaaDoor
open Go.RowKit

def eltC (e : Elt) : List Value := [.int .i64 (e.1 : Int), .string ⟨e.2.1.toArray⟩, .string ⟨e.2.2.toArray⟩]
abbrev RElt : Rep Elt := Pu eltC
theorem RElt.ok : RepOk RElt 3 := Pu.ok (fun _ => rfl) (fun x u hu => by simp [eltC] at hu; rcases hu with rfl | rfl | rfl <;> rfl)
def eltV (e : Elt) : Value := .agg #[.int .i64 (e.1 : Int), .string ⟨e.2.1.toArray⟩, .string ⟨e.2.2.toArray⟩]
def noElt : Value := .agg #[.int .i64 0, .string ⟨#[]⟩, .string ⟨#[]⟩]
def readR : Except Int (Elt × List UInt8) → Value
  | .error k => .tuple #[noElt, .string ⟨#[]⟩, .int .i64 k]
  | .ok (e, r) => .tuple #[eltV e, .string ⟨r.toArray⟩, .int .i64 0]

/-- a block of an element, new -/
def ResE (g : Nat) (W : World) : Prop := W.heap[g]? = some (.cells #[.int .i64 0, .string ⟨#[]⟩, .string ⟨#[]⟩] 38 (0, 0))
theorem ResE.facts {g : Nat} {W : World} (h : ResE g W) : W.cell? ⟨g, 0, none⟩ = some (.int .i64 0) ∧ W.cell? ⟨g, 1, none⟩ = some (.string ⟨#[]⟩) ∧ W.cell? ⟨g, 2, none⟩ = some (.string ⟨#[]⟩) ∧
    W.frozen? ⟨g, 0, none⟩ = false ∧ W.frozen? ⟨g, 1, none⟩ = false ∧ W.frozen? ⟨g, 2, none⟩ = false := by
  unfold ResE at h
  simp [World.cell?, World.frozen?, h]
theorem ResE.below {g : Nat} {W W' : World} (h : ResE g W) (hb : Below W.heap.size W W') : ResE g W' := by
  have hlt : g < W.heap.size := (Array.getElem?_eq_some_iff.1 h).1
  exact (hb.block g hlt).trans h
theorem ResE.keep {g B : Nat} {W W' : World} (h : ResE g W) (hg : g < B) (hb : Below B W W') : ResE g W' := (hb.block g hg).trans h
theorem ResE.drewN {g : Nat} {W : World} (h : ResE g W) (n : Nat) : ResE g (W.drewN n) := h
theorem ResE.lt {g : Nat} {W : World} (h : ResE g W) : g < W.heap.size := (Array.getElem?_eq_some_iff.1 h).1
theorem ResE.store {g : Nat} {W : World} (h : ResE g W) (a b c : Value) :
    (((W.setCell ⟨g, 0, none⟩ a).setCell ⟨g, 1, none⟩ b).setCell ⟨g, 2, none⟩ c).cell? ⟨g, 0, none⟩ = some a ∧ (((W.setCell ⟨g, 0, none⟩ a).setCell ⟨g, 1, none⟩ b).setCell ⟨g, 2, none⟩ c).cell? ⟨g, 1, none⟩ = some b ∧
    (((W.setCell ⟨g, 0, none⟩ a).setCell ⟨g, 1, none⟩ b).setCell ⟨g, 2, none⟩ c).cell? ⟨g, 2, none⟩ = some c := by
  unfold ResE at h
  simp [World.cell?, World.setCell, Array.getElem?_modify, h]
theorem below_store3' {B g : Nat} {w W : World} (h : Below B w W) (hg : B ≤ g) (a b c : Value) : Below B w (((W.setCell ⟨g, 0, none⟩ a).setCell ⟨g, 1, none⟩ b).setCell ⟨g, 2, none⟩ c) :=
  ((h.setCell (p := ⟨g, 0, none⟩) hg a).setCell (p := ⟨g, 1, none⟩) hg b).setCell (p := ⟨g, 2, none⟩) hg c
theorem two_new (w : World) : ∃ W, W = (w.alloc (.cells #[.int .i64 0, .string ⟨#[]⟩, .string ⟨#[]⟩] 38)).alloc (.cells #[.int .i64 0, .string ⟨#[]⟩, .string ⟨#[]⟩] 38) ∧ ResE w.heap.size W ∧ ResE (w.heap.size + 1) W ∧ Below w.heap.size w W ∧ W.heap.size = w.heap.size + 2 := by
  refine ⟨_, rfl, ?_, ?_, ((Below.refl _ _).alloc (Nat.le_refl _) _).alloc (by simp) _, by simp⟩
  · exact (Below.heap_alloc _ _ _ (by simp)).trans (heap_alloc_new w _)
  · have := heap_alloc_new (w.alloc (.cells #[.int .i64 0, .string ⟨#[]⟩, .string ⟨#[]⟩] 38)) (.cells #[.int .i64 0, .string ⟨#[]⟩, .string ⟨#[]⟩] 38)
    rw [World.size_alloc] at this
    exact this

set_option maxHeartbeats 1000000 in
theorem least_any (k : Nat) (h1 : 1 ≤ k) (h3 : k ≤ 3) (w : World) : Calls Tryd.prog 66 #[.int .i64 (k : Int)] w fun e w' => e = .returned (.int .i64 (leastB k : Int)) ∧ w = w' := by
  match k, h1, h3 with
  | 1, _, _ =>
    go_enter Tryd.func66, Tryd.ntmps66
    go_wp2_with fail
    go_ret
    exact ⟨rfl, rfl⟩
  | 2, _, _ =>
    go_enter Tryd.func66, Tryd.ntmps66
    go_wp2_with fail
    go_ret
    exact ⟨rfl, rfl⟩
  | 3, _, _ =>
    go_enter Tryd.func66, Tryd.ntmps66
    go_wp2_with fail
    go_ret
    exact ⟨rfl, rfl⟩

theorem bytes_drop (s : ByteArray) (k : Nat) : (s.extract k s.size).data.toList = s.data.toList.drop k := by
  rw [Lib.extract_data, List.take_of_length_le (by simp)]
theorem bytes_ext (s : ByteArray) (a b : Nat) : (s.extract a b).data.toList = (s.data.toList.drop a).take (b - a) := Lib.extract_data s a b
theorem slice_to {P : Program} (t : TypeId) (ht : P.underlying t = some .string) (s : ByteArray) (j : Nat) (J : Int) (hJ : J = j) (h2 : j ≤ s.size) :
    ∀ W : World, (Instr.slice t (.string s) none (some (.int .i64 J)) none).run P W = .ok (.string (s.extract 0 j)) W := by
  subst hJ
  intro W
  go_simp
theorem slice_from {P : Program} (t : TypeId) (ht : P.underlying t = some .string) (s : ByteArray) (i : Nat) (I : Int) (hI : I = i) (h2 : i ≤ s.size) :
    ∀ W : World, (Instr.slice t (.string s) (some (.int .i64 I)) none none).run P W = .ok (.string (s.extract i s.size)) W := by
  subst hI
  intro W
  go_simp
theorem string_two (s : ByteArray) (h : 2 ≤ s.size) : s.data.toList = s[0] :: s[1] :: s.data.toList.drop 2 := by
  have h0 := drop_string s 0 (by omega)
  have h1 := drop_string s 1 (by omega)
  rw [List.drop_zero] at h0
  exact h0.trans (congrArg (s[0] :: ·) h1)



theorem i64_or_shift8 (a b : Nat) (ha : a ≤ 1099511627776) (hb : b < 256) : bits .or .i64 ((a : Int) * 256) (b : Int) = ((a * 256 + b : Nat) : Int) := by
  have h := i64_or_nat (a * 256) b (by omega) (by omega)
  have e : a * 256 ||| b = a * 256 + b := by
    have := Nat.shiftLeft_add_eq_or_of_lt (i := 8) (show b < 2 ^ 8 by omega) a
    rw [Nat.shiftLeft_eq] at this
    exact this.symm
  rw [e] at h
  rw [← h]
  rfl
theorem beB_snoc (l : List UInt8) (c : UInt8) : beB (l ++ [c]) = beB l * 256 + c.toNat := by unfold beB; rw [List.foldl_append]; rfl
theorem beB_go : ∀ (l : List UInt8) (n : Nat), l.foldl (fun n c => n * 256 + c.toNat) n < (n + 1) * 256 ^ l.length
  | [], n => by simp
  | c :: r, n => by
    have h := beB_go r (n * 256 + c.toNat)
    have hc := c.toNat_lt
    rw [List.foldl_cons, List.length_cons, Nat.pow_succ]
    refine Nat.lt_of_lt_of_le h ?_
    have h2 : n * 256 + c.toNat + 1 ≤ (n + 1) * 256 := by omega
    have := Nat.mul_le_mul_right (256 ^ r.length) h2
    rw [Nat.mul_assoc, Nat.mul_comm 256] at this
    exact this
theorem beB_lt (l : List UInt8) : beB l < 256 ^ l.length := by
  have := beB_go l 0
  simpa [beB] using this
theorem beB_le {l : List UInt8} (h : l.length ≤ 3) : beB l < 16777216 := by
  have h1 := beB_lt l
  have := Nat.pow_le_pow_right (n := 256) (by omega) h
  omega
theorem least_v (k : Nat) (h1 : 1 ≤ k) (h3 : k ≤ 3) (m : Int) (hm : (leastB k : Int) = m) (w : World) : Calls Tryd.prog 66 #[.int .i64 (k : Int)] w fun e w' => e = .returned (.int .i64 m) ∧ w = w' := hm ▸ least_any k h1 h3 w


set_option maxRecDepth 100000 in
set_option maxHeartbeats 8000000 in
theorem Read_any (s : ByteArray) (hs : s.size ≤ 1000000000) (w : World) :
    Calls Tryd.prog 53 #[.string s] w fun e w' => e = .returned (readR (readF s.data.toList)) ∧ Below w.heap.size w w' := by
  obtain ⟨r, hr⟩ : ∃ r, readF s.data.toList = r := ⟨_, rfl⟩
  rw [hr]
  have HR := hide hr
  clear hr
  obtain ⟨W, hW, hr0, hr1, hb0, hsz0⟩ := two_new w
  have HR0 := hide hr0
  have HR1 := hide hr1
  have HB0 := hide hb0
  have HSZ := hide hsz0
  clear hr0 hr1 hb0 hsz0
  go_enter Tryd.func53, Tryd.ntmps53
  go_upto_region 2 with fail
  rw [← hW]
  clear hW
  by_cases h0 : s.size = 0
  · have hem : s.toList = [] := by rw [ByteArray.toList_eq]; exact List.eq_nil_of_length_eq_zero (by rw [size_string]; omega)
    have hl : s.data.toList = [] := by rw [← ByteArray.toList_eq]; exact hem
    have HN := hide (show r = .error 3 by rw [← HR.out, hl]; rfl)
    obtain ⟨r0, r1, r2, f0, f1, f2⟩ := HR0.out.facts
    obtain ⟨n0, n1, n2, -, -, -⟩ := HR1.out.facts
    go_wp2_with fail
    obtain ⟨q0, q1, q2⟩ := HR0.out.store (.int .i64 0) (.string ⟨#[]⟩) (.string ⟨#[]⟩)
    have hbz := below_store3' HB0.out (Nat.le_refl w.heap.size) (.int .i64 0) (.string ⟨#[]⟩) (.string ⟨#[]⟩)
    obtain ⟨W3, hW3⟩ : ∃ W3, W3 = ((W.setCell ⟨w.heap.size, 0, none⟩ (.int .i64 0)).setCell ⟨w.heap.size, 1, none⟩ (.string ⟨#[]⟩)).setCell ⟨w.heap.size, 2, none⟩ (.string ⟨#[]⟩) := ⟨_, rfl⟩
    rw [← hW3] at q0 q1 q2 hbz ⊢
    exact bodyPost_ret (v := .tuple #[.agg #[(.int .i64 0), (.string ⟨#[]⟩), (.string ⟨#[]⟩)], .string ⟨#[]⟩, .int .i64 3]) (by simp [results, Tryd.results53, go_sem, q0, q1, q2]) rfl ⟨by rw [HN.out]; rfl, hbz⟩
  · have hp : 0 < s.size := by omega
    have hpi : (0 : Int) < (s.size : Int) := by omega
    have hem : ¬ s.toList = [] := by rw [ByteArray.toList_eq]; intro e; have := size_string s; rw [e] at this; simp at this; omega
    have hem1 : (s.toList == []) = false := by simpa using hem
    have hem2 : s.toList.isEmpty = false := by simpa using hem
    have hd0 := drop_string s 0 hp
    rw [List.drop_zero] at hd0
    obtain ⟨t, ht⟩ : ∃ t, s[0] = t := ⟨_, rfl⟩
    rw [ht] at hd0
    have htb := byte_lt t
    have b31 := and31 t.toNat t.toNat_lt
    obtain ⟨m, hm⟩ : ∃ m, t.toNat % 32 = m := ⟨_, rfl⟩
    rw [hm] at b31
    have HM := hide hm
    have HD := hide hd0
    clear hem hm hd0 h0
    by_cases h31 : m = 31
    · have t31 : ((m : Int) == 31) = true := by rw [h31]; rfl
      have HE := hide (show r = .error 5 by
        rw [← HR.out, HD.out]
        cases s.data.toList.drop (0 + 1) with
        | nil => rw [readF, if_pos (by rw [HM.out, h31])]
        | cons a b => rw [readF, if_pos (by rw [HM.out, h31])])
      clear h31
      have HN := hide (show r = .error 5 by exact HE.out)
      obtain ⟨r0, r1, r2, f0, f1, f2⟩ := HR0.out.facts
      obtain ⟨n0, n1, n2, -, -, -⟩ := HR1.out.facts
      go_wp2_with fail
      obtain ⟨q0, q1, q2⟩ := HR0.out.store (.int .i64 0) (.string ⟨#[]⟩) (.string ⟨#[]⟩)
      have hbz := below_store3' HB0.out (Nat.le_refl w.heap.size) (.int .i64 0) (.string ⟨#[]⟩) (.string ⟨#[]⟩)
      obtain ⟨W3, hW3⟩ : ∃ W3, W3 = ((W.setCell ⟨w.heap.size, 0, none⟩ (.int .i64 0)).setCell ⟨w.heap.size, 1, none⟩ (.string ⟨#[]⟩)).setCell ⟨w.heap.size, 2, none⟩ (.string ⟨#[]⟩) := ⟨_, rfl⟩
      rw [← hW3] at q0 q1 q2 hbz ⊢
      exact bodyPost_ret (v := .tuple #[.agg #[(.int .i64 0), (.string ⟨#[]⟩), (.string ⟨#[]⟩)], .string ⟨#[]⟩, .int .i64 5]) (by simp [results, Tryd.results53, go_sem, q0, q1, q2]) rfl ⟨by rw [HN.out]; rfl, hbz⟩
    · have t31 : ((m : Int) == 31) = false := beq_false_of_ne (by omega)
      have H31 := hide h31
      clear h31
      by_cases h1 : s.size = 1
      · have hlt : (s.size : Int) < 2 := by omega
        have HE := hide (show r = .error 3 by
          rw [← HR.out, HD.out, drop_string_end s (0 + 1) (by omega), readF, if_neg (by rw [HM.out]; exact H31.out)])
        clear h1
        have HN := hide (show r = .error 3 by exact HE.out)
        obtain ⟨r0, r1, r2, f0, f1, f2⟩ := HR0.out.facts
        obtain ⟨n0, n1, n2, -, -, -⟩ := HR1.out.facts
        go_wp2_with fail
        obtain ⟨q0, q1, q2⟩ := HR0.out.store (.int .i64 0) (.string ⟨#[]⟩) (.string ⟨#[]⟩)
        have hbz := below_store3' HB0.out (Nat.le_refl w.heap.size) (.int .i64 0) (.string ⟨#[]⟩) (.string ⟨#[]⟩)
        obtain ⟨W3, hW3⟩ : ∃ W3, W3 = ((W.setCell ⟨w.heap.size, 0, none⟩ (.int .i64 0)).setCell ⟨w.heap.size, 1, none⟩ (.string ⟨#[]⟩)).setCell ⟨w.heap.size, 2, none⟩ (.string ⟨#[]⟩) := ⟨_, rfl⟩
        rw [← hW3] at q0 q1 q2 hbz ⊢
        exact bodyPost_ret (v := .tuple #[.agg #[(.int .i64 0), (.string ⟨#[]⟩), (.string ⟨#[]⟩)], .string ⟨#[]⟩, .int .i64 3]) (by simp [results, Tryd.results53, go_sem, q0, q1, q2]) rfl ⟨by rw [HN.out]; rfl, hbz⟩
      · have h2 : 2 ≤ s.size := by omega
        have hlt : ¬ (s.size : Int) < 2 := by omega
        have hst := string_two s h2
        obtain ⟨n, hn⟩ : ∃ n, s[1] = n := ⟨_, rfl⟩
        rw [hn, ht] at hst
        have hnb := byte_lt n
        have HX := hide (show r = _ from HR.out.symm.trans ((congrArg readF hst).trans (readF.eq_3 t n (s.data.toList.drop 2) |>.trans (if_neg (by rw [HM.out]; exact H31.out)))))
        have HS := hide hst
        have h1i : (1 : Int) < (s.size : Int) := by omega
        clear h1 hst
        by_cases hbad : n.toNat = 128 ∨ 131 < n.toNat
        · have HE := hide (HX.out.trans (if_pos hbad))
          rcases hbad with h128 | h131
          · have e1 : ((n.toNat : Int) == 128) = true := by rw [h128]; rfl
            clear h128
            have HN := hide (show r = .error 6 by exact HE.out)
            obtain ⟨r0, r1, r2, f0, f1, f2⟩ := HR0.out.facts
            obtain ⟨n0, n1, n2, -, -, -⟩ := HR1.out.facts
            go_wp2_with fail
            obtain ⟨q0, q1, q2⟩ := HR0.out.store (.int .i64 0) (.string ⟨#[]⟩) (.string ⟨#[]⟩)
            have hbz := below_store3' HB0.out (Nat.le_refl w.heap.size) (.int .i64 0) (.string ⟨#[]⟩) (.string ⟨#[]⟩)
            obtain ⟨W3, hW3⟩ : ∃ W3, W3 = ((W.setCell ⟨w.heap.size, 0, none⟩ (.int .i64 0)).setCell ⟨w.heap.size, 1, none⟩ (.string ⟨#[]⟩)).setCell ⟨w.heap.size, 2, none⟩ (.string ⟨#[]⟩) := ⟨_, rfl⟩
            rw [← hW3] at q0 q1 q2 hbz ⊢
            exact bodyPost_ret (v := .tuple #[.agg #[(.int .i64 0), (.string ⟨#[]⟩), (.string ⟨#[]⟩)], .string ⟨#[]⟩, .int .i64 6]) (by simp [results, Tryd.results53, go_sem, q0, q1, q2]) rfl ⟨by rw [HN.out]; rfl, hbz⟩
          · have e1 : ((n.toNat : Int) == 128) = false := beq_false_of_ne (by omega)
            have e2 : (131 : Int) < (n.toNat : Int) := by omega
            clear h131
            have HN := hide (show r = .error 6 by exact HE.out)
            obtain ⟨r0, r1, r2, f0, f1, f2⟩ := HR0.out.facts
            obtain ⟨n0, n1, n2, -, -, -⟩ := HR1.out.facts
            go_wp2_with fail
            obtain ⟨q0, q1, q2⟩ := HR0.out.store (.int .i64 0) (.string ⟨#[]⟩) (.string ⟨#[]⟩)
            have hbz := below_store3' HB0.out (Nat.le_refl w.heap.size) (.int .i64 0) (.string ⟨#[]⟩) (.string ⟨#[]⟩)
            obtain ⟨W3, hW3⟩ : ∃ W3, W3 = ((W.setCell ⟨w.heap.size, 0, none⟩ (.int .i64 0)).setCell ⟨w.heap.size, 1, none⟩ (.string ⟨#[]⟩)).setCell ⟨w.heap.size, 2, none⟩ (.string ⟨#[]⟩) := ⟨_, rfl⟩
            rw [← hW3] at q0 q1 q2 hbz ⊢
            exact bodyPost_ret (v := .tuple #[.agg #[(.int .i64 0), (.string ⟨#[]⟩), (.string ⟨#[]⟩)], .string ⟨#[]⟩, .int .i64 6]) (by simp [results, Tryd.results53, go_sem, q0, q1, q2]) rfl ⟨by rw [HN.out]; rfl, hbz⟩
        · have HX2 := hide (HX.out.trans (if_neg hbad))
          have e1 : ((n.toNat : Int) == 128) = false := beq_false_of_ne (by omega)
          have e2 : ¬ (131 : Int) < (n.toNat : Int) := by omega
          by_cases hsm : n.toNat < 128
          · have HX3 := hide (HX2.out.trans (if_pos hsm))
            obtain ⟨N, hN⟩ : ∃ N, n.toNat = N := ⟨_, rfl⟩
            rw [hN] at e1 e2 hnb HX3
            have e3 : ¬ (128 : Int) < (N : Int) := by omega
            have hN3 : (N : Int) < 128 := by omega
            clear hbad hsm
            by_cases hc : s.size - 2 < N
            · have hci : (s.size : Int) - 2 < (N : Int) := by omega
              have HE := hide (show r = .error 3 by rw [HX3.out, ← HS.out, cutE, cutB, if_pos (by rw [size_string]; exact hc)])
              clear hc
              have HN := hide (show r = .error 3 by exact HE.out)
              obtain ⟨r0, r1, r2, f0, f1, f2⟩ := HR0.out.facts
              obtain ⟨n0, n1, n2, -, -, -⟩ := HR1.out.facts
              go_wp2_with fail
              obtain ⟨q0, q1, q2⟩ := HR0.out.store (.int .i64 0) (.string ⟨#[]⟩) (.string ⟨#[]⟩)
              have hbz := below_store3' HB0.out (Nat.le_refl w.heap.size) (.int .i64 0) (.string ⟨#[]⟩) (.string ⟨#[]⟩)
              obtain ⟨W3, hW3⟩ : ∃ W3, W3 = ((W.setCell ⟨w.heap.size, 0, none⟩ (.int .i64 0)).setCell ⟨w.heap.size, 1, none⟩ (.string ⟨#[]⟩)).setCell ⟨w.heap.size, 2, none⟩ (.string ⟨#[]⟩) := ⟨_, rfl⟩
              rw [← hW3] at q0 q1 q2 hbz ⊢
              exact bodyPost_ret (v := .tuple #[.agg #[(.int .i64 0), (.string ⟨#[]⟩), (.string ⟨#[]⟩)], .string ⟨#[]⟩, .int .i64 3]) (by simp [results, Tryd.results53, go_sem, q0, q1, q2]) rfl ⟨by rw [HN.out]; rfl, hbz⟩
            · have hci : ¬ (s.size : Int) - 2 < (N : Int) := by omega
              have hw1 : IntKind.i64.wrap (2 + (N : Int)) = 2 + (N : Int) := IntWalk.i64_in _ (by omega)
              have hle : 2 + N ≤ s.size := by omega
              have hs1 := slice_str (P := Tryd.prog) 9 Tryd.underlying9 s 2 (2 + N) 2 (2 + (N : Int)) rfl (by omega) (by omega) hle
              have hs2 := slice_to (P := Tryd.prog) 9 Tryd.underlying9 s (2 + N) (2 + (N : Int)) (by omega) hle
              have hs3 := slice_from (P := Tryd.prog) 9 Tryd.underlying9 s (2 + N) (2 + (N : Int)) (by omega) hle
              obtain ⟨x1, hx1⟩ : ∃ x, s.extract 2 (2 + N) = x := ⟨_, rfl⟩
              obtain ⟨x2, hx2⟩ : ∃ x, s.extract 0 (2 + N) = x := ⟨_, rfl⟩
              obtain ⟨x3, hx3⟩ : ∃ x, s.extract (2 + N) s.size = x := ⟨_, rfl⟩
              rw [hx1] at hs1
              rw [hx2] at hs2
              rw [hx3] at hs3
              have HN := hide (show r = .ok ((t.toNat, x1.data.toList, x2.data.toList), x3.data.toList) by
                rw [HX3.out, ← HS.out, cutE, cutB, if_neg (by rw [size_string]; omega), ← hx1, ← hx2, ← hx3, Lib.extract_data, Lib.extract_data, bytes_drop]
                simp only [Nat.add_sub_cancel_left, Nat.sub_zero, List.drop_zero])
              clear hx1 hx2 hx3 hle hnb
              obtain ⟨r0, r1, r2, f0, f1, f2⟩ := HR0.out.facts
              go_upto_region 27 with fail
              go_region
              all_goals
                go_wp2_with fail
                obtain ⟨q0, q1, q2⟩ := HR0.out.store (.int .i64 (t.toNat : Int)) (.string x1) (.string x2)
                have hbz := below_store3' HB0.out (Nat.le_refl w.heap.size) (.int .i64 (t.toNat : Int)) (.string x1) (.string x2)
                obtain ⟨W3, hW3⟩ : ∃ W3, W3 = (((W.setCell ⟨w.heap.size, 0, none⟩ (.int .i64 (t.toNat : Int))).setCell ⟨w.heap.size, 1, none⟩ (.string x1)).setCell ⟨w.heap.size, 2, none⟩ (.string x2)) := ⟨_, rfl⟩
                rw [← hW3] at q0 q1 q2 hbz ⊢
                have q0' : W3.drew.cell? ⟨w.heap.size, 0, none⟩ = some (.int .i64 (t.toNat : Int)) := q0
                have q1' : W3.drew.cell? ⟨w.heap.size, 1, none⟩ = some (.string x1) := q1
                have q2' : W3.drew.cell? ⟨w.heap.size, 2, none⟩ = some (.string x2) := q2
                exact bodyPost_ret (v := .tuple #[.agg #[.int .i64 (t.toNat : Int), .string x1, .string x2], .string x3, .int .i64 0]) (by simp [results, Tryd.results53, go_sem, q0', q1', q2']) rfl ⟨by rw [HN.out]; rfl, hbz.drew⟩
          · have hk : n.toNat = 129 ∨ n.toNat = 130 ∨ n.toNat = 131 := by omega
            rcases hk with hk | hk | hk
            · have hNi : (n.toNat : Int) = 129 := by omega
              have hbn : ¬ n.toNat < 128 := by omega
              have HX3 := hide (HX2.out.trans (if_neg hbn))
              have hql : (s.data.toList.drop 2).length = s.size - 2 := by rw [List.length_drop, size_string]
              have hk9 : n.toNat - 128 = 1 := by omega
              rw [hk9, hql] at HX3
              have HK9 := hide hk9
              clear hbad hsm e1 e2 hnb hbn hk hk9
              by_cases hq : s.size - 2 < 1
              · have HE := hide (HX3.out.trans (if_pos hq))
                have hlt3 : (s.size : Int) < 3 := by omega
                clear hq hql
                have HN := hide (show r = .error 3 by exact HE.out)
                obtain ⟨r0, r1, r2, f0, f1, f2⟩ := HR0.out.facts
                obtain ⟨n0, n1, n2, -, -, -⟩ := HR1.out.facts
                go_wp2_with fail
                obtain ⟨q0, q1, q2⟩ := HR0.out.store (.int .i64 0) (.string ⟨#[]⟩) (.string ⟨#[]⟩)
                have hbz := below_store3' HB0.out (Nat.le_refl w.heap.size) (.int .i64 0) (.string ⟨#[]⟩) (.string ⟨#[]⟩)
                obtain ⟨W3, hW3⟩ : ∃ W3, W3 = ((W.setCell ⟨w.heap.size, 0, none⟩ (.int .i64 0)).setCell ⟨w.heap.size, 1, none⟩ (.string ⟨#[]⟩)).setCell ⟨w.heap.size, 2, none⟩ (.string ⟨#[]⟩) := ⟨_, rfl⟩
                rw [← hW3] at q0 q1 q2 hbz ⊢
                exact bodyPost_ret (v := .tuple #[.agg #[(.int .i64 0), (.string ⟨#[]⟩), (.string ⟨#[]⟩)], .string ⟨#[]⟩, .int .i64 3]) (by simp [results, Tryd.results53, go_sem, q0, q1, q2]) rfl ⟨by rw [HN.out]; rfl, hbz⟩
              · have HX4 := hide (HX3.out.trans (if_neg hq))
                have hlt3 : ¬ (s.size : Int) < 3 := by omega
                obtain ⟨l, hl⟩ : ∃ l, (s.data.toList.drop 2).take 1 = l := ⟨_, rfl⟩
                rw [hl] at HX4
                have hll : l.length = 1 := by rw [← hl, List.length_take, hql]; omega
                have hsl := slice_str (P := Tryd.prog) 9 Tryd.underlying9 s 2 3 2 3 rfl rfl (by omega) (by omega)
                obtain ⟨x, hx⟩ : ∃ x, s.extract 2 3 = x := ⟨_, rfl⟩
                have HL := hide (show x.data.toList = l by rw [← hx, Lib.extract_data, ← hl])
                rw [hx] at hsl
                have hml : l.length ≤ maxLen := by rw [hll]; decide
                have HLL := hide hll
                clear hq hql hl hx hll
                go_wp2_with (with_reducible refine wpList_str_bts _ rfl (.tmp 49) 9 56 5 rfl Tryd.underlying9 Tryd.underlying56 Tryd.underlying5 x rfl l HL.out hml ?_; intro g c w1 hg1 hg2 hb1 hby hc1 hc2)
                rw [HLL.out] at hc1 ⊢
                go_loopw [7, 52] (fun v i wr => w1 = wr ∧ ∃ j : Nat, j ≤ 1 ∧ i = .int .i64 j ∧ v = .int .i64 (beB (l.take j) : Nat)) (fun _ i _ => 1 - (intOf i).toNat)
                case atStart => exact ⟨rfl, 0, by omega, rfl, rfl⟩
                case round =>
                  obtain ⟨rfl, j, hj, rfl, rfl⟩ := hrel
                  have HR0 := hide (HR0.out.below hb1)
                  have HR1 := hide (HR1.out.below hb1)
                  have HB0 := hide (HB0.out.trans (hb1.mono HB0.out.size))
                  by_cases hlt : j < 1
                  · have hjl : j < l.length := by rw [HLL.out]; exact hlt
                    have hcell := hby.cell hjl
                    have hsn := beB_snoc (l.take j) l[j]
                    rw [← List.take_succ_eq_append_getElem hjl] at hsn
                    have hbl := beB_le (l := l.take j) (by rw [List.length_take]; omega)
                    obtain ⟨c1, hc1'⟩ : ∃ c1, l[j] = c1 := ⟨_, rfl⟩
                    rw [hc1'] at hcell hsn
                    obtain ⟨v, hv⟩ : ∃ v, beB (l.take j) = v := ⟨_, rfl⟩
                    rw [hv] at hsn hbl ⊢
                    have hor := i64_or_shift8 v c1.toNat (by omega) c1.toNat_lt
                    have HSN := hide hsn
                    have hcb := byte_lt c1
                    clear hc1' hv hsn hb1 hby
                    go_wp2_with fail
                    go_roundw
                    case rel => exact ⟨trivial, j + 1, by omega, by go_num, by rw [HSN.out]; go_num⟩
                    case measure => simp [intOf]; omega
                  · have hjk : j = 1 := by omega
                    have hvv : beB (l.take j) = beB l := by rw [List.take_of_length_le (by rw [HLL.out]; omega)]
                    rw [hvv]
                    obtain ⟨N, hN⟩ : ∃ N, beB l = N := ⟨_, rfl⟩
                    rw [hN] at HX4 ⊢
                    have hNb := beB_le (l := l) (by rw [HLL.out]; decide)
                    rw [hN] at hNb
                    clear hb1 hby hvv hN
                    go_wp2_with fail
                    refine (least_v 1 (by omega) (by omega) 128 rfl _).mono ?_
                    rintro e w2 ⟨rfl, rfl⟩
                    by_cases hbad : N < 128 ∨ 131072 < N
                    · have HE := hide (HX4.out.trans (if_pos (show N < leastB 1 ∨ 131072 < N from hbad)))
                      rcases hbad with hbad | hbad
                      · have e1 : (N : Int) < 128 := by omega
                        clear hbad
                        have HN := hide (show r = .error 6 by exact HE.out)
                        obtain ⟨r0, r1, r2, f0, f1, f2⟩ := HR0.out.facts
                        obtain ⟨n0, n1, n2, -, -, -⟩ := HR1.out.facts
                        go_wp2_with fail
                        obtain ⟨q0, q1, q2⟩ := HR0.out.store (.int .i64 0) (.string ⟨#[]⟩) (.string ⟨#[]⟩)
                        have hbz := below_store3' HB0.out (Nat.le_refl w.heap.size) (.int .i64 0) (.string ⟨#[]⟩) (.string ⟨#[]⟩)
                        obtain ⟨W3, hW3⟩ : ∃ W3, W3 = ((w1.setCell ⟨w.heap.size, 0, none⟩ (.int .i64 0)).setCell ⟨w.heap.size, 1, none⟩ (.string ⟨#[]⟩)).setCell ⟨w.heap.size, 2, none⟩ (.string ⟨#[]⟩) := ⟨_, rfl⟩
                        rw [← hW3] at q0 q1 q2 hbz ⊢
                        exact bodyPost_ret (v := .tuple #[.agg #[(.int .i64 0), (.string ⟨#[]⟩), (.string ⟨#[]⟩)], .string ⟨#[]⟩, .int .i64 6]) (by simp [results, Tryd.results53, go_sem, q0, q1, q2]) rfl ⟨by rw [HN.out]; rfl, hbz⟩
                      · have e1 : ¬ (N : Int) < 128 := by omega
                        have e2 : (131072 : Int) < (N : Int) := by omega
                        clear hbad
                        have HN := hide (show r = .error 6 by exact HE.out)
                        obtain ⟨r0, r1, r2, f0, f1, f2⟩ := HR0.out.facts
                        obtain ⟨n0, n1, n2, -, -, -⟩ := HR1.out.facts
                        go_wp2_with fail
                        obtain ⟨q0, q1, q2⟩ := HR0.out.store (.int .i64 0) (.string ⟨#[]⟩) (.string ⟨#[]⟩)
                        have hbz := below_store3' HB0.out (Nat.le_refl w.heap.size) (.int .i64 0) (.string ⟨#[]⟩) (.string ⟨#[]⟩)
                        obtain ⟨W3, hW3⟩ : ∃ W3, W3 = ((w1.setCell ⟨w.heap.size, 0, none⟩ (.int .i64 0)).setCell ⟨w.heap.size, 1, none⟩ (.string ⟨#[]⟩)).setCell ⟨w.heap.size, 2, none⟩ (.string ⟨#[]⟩) := ⟨_, rfl⟩
                        rw [← hW3] at q0 q1 q2 hbz ⊢
                        exact bodyPost_ret (v := .tuple #[.agg #[(.int .i64 0), (.string ⟨#[]⟩), (.string ⟨#[]⟩)], .string ⟨#[]⟩, .int .i64 6]) (by simp [results, Tryd.results53, go_sem, q0, q1, q2]) rfl ⟨by rw [HN.out]; rfl, hbz⟩
                    · have HX5 := hide (HX4.out.trans (if_neg (show ¬ (N < leastB 1 ∨ 131072 < N) from hbad)))
                      have e1 : ¬ (N : Int) < 128 := by omega
                      have e2 : ¬ (131072 : Int) < (N : Int) := by omega
                      clear hbad
                      by_cases hc : s.size - 3 < N
                      · have hci : (s.size : Int) - 3 < (N : Int) := by omega
                        have HE := hide (show r = .error 3 by rw [HX5.out, ← HS.out, cutE, cutB, if_pos (by rw [size_string]; exact hc)])
                        clear hc
                        have HN := hide (show r = .error 3 by exact HE.out)
                        obtain ⟨r0, r1, r2, f0, f1, f2⟩ := HR0.out.facts
                        obtain ⟨n0, n1, n2, -, -, -⟩ := HR1.out.facts
                        go_wp2_with fail
                        obtain ⟨q0, q1, q2⟩ := HR0.out.store (.int .i64 0) (.string ⟨#[]⟩) (.string ⟨#[]⟩)
                        have hbz := below_store3' HB0.out (Nat.le_refl w.heap.size) (.int .i64 0) (.string ⟨#[]⟩) (.string ⟨#[]⟩)
                        obtain ⟨W3, hW3⟩ : ∃ W3, W3 = ((w1.setCell ⟨w.heap.size, 0, none⟩ (.int .i64 0)).setCell ⟨w.heap.size, 1, none⟩ (.string ⟨#[]⟩)).setCell ⟨w.heap.size, 2, none⟩ (.string ⟨#[]⟩) := ⟨_, rfl⟩
                        rw [← hW3] at q0 q1 q2 hbz ⊢
                        exact bodyPost_ret (v := .tuple #[.agg #[(.int .i64 0), (.string ⟨#[]⟩), (.string ⟨#[]⟩)], .string ⟨#[]⟩, .int .i64 3]) (by simp [results, Tryd.results53, go_sem, q0, q1, q2]) rfl ⟨by rw [HN.out]; rfl, hbz⟩
                      · have hci : ¬ (s.size : Int) - 3 < (N : Int) := by omega
                        have hnb : (0 : Int) ≤ 0 := by omega
                        have hw1 : IntKind.i64.wrap (3 + (N : Int)) = 3 + (N : Int) := IntWalk.i64_in _ (by omega)
                        have hle : 3 + N ≤ s.size := by omega
                        have hs1 := slice_str (P := Tryd.prog) 9 Tryd.underlying9 s 3 (3 + N) 3 (3 + (N : Int)) rfl (by omega) (by omega) hle
                        have hs2 := slice_to (P := Tryd.prog) 9 Tryd.underlying9 s (3 + N) (3 + (N : Int)) (by omega) hle
                        have hs3 := slice_from (P := Tryd.prog) 9 Tryd.underlying9 s (3 + N) (3 + (N : Int)) (by omega) hle
                        obtain ⟨x1, hx1⟩ : ∃ x, s.extract 3 (3 + N) = x := ⟨_, rfl⟩
                        obtain ⟨x2, hx2⟩ : ∃ x, s.extract 0 (3 + N) = x := ⟨_, rfl⟩
                        obtain ⟨x3, hx3⟩ : ∃ x, s.extract (3 + N) s.size = x := ⟨_, rfl⟩
                        rw [hx1] at hs1
                        rw [hx2] at hs2
                        rw [hx3] at hs3
                        have HN := hide (show r = .ok ((t.toNat, x1.data.toList, x2.data.toList), x3.data.toList) by
                          rw [HX5.out, ← HS.out, cutE, cutB, if_neg (by rw [size_string]; omega), ← hx1, ← hx2, ← hx3, Lib.extract_data, Lib.extract_data, bytes_drop]
                          simp only [Nat.add_sub_cancel_left, Nat.sub_zero, List.drop_zero])
                        clear hx1 hx2 hx3 hle hnb
                        obtain ⟨r0, r1, r2, f0, f1, f2⟩ := HR0.out.facts
                        go_upto_region 27 with fail
                        go_region
                        all_goals
                          go_wp2_with fail
                          obtain ⟨q0, q1, q2⟩ := HR0.out.store (.int .i64 (t.toNat : Int)) (.string x1) (.string x2)
                          have hbz := below_store3' HB0.out (Nat.le_refl w.heap.size) (.int .i64 (t.toNat : Int)) (.string x1) (.string x2)
                          obtain ⟨W3, hW3⟩ : ∃ W3, W3 = (((w1.setCell ⟨w.heap.size, 0, none⟩ (.int .i64 (t.toNat : Int))).setCell ⟨w.heap.size, 1, none⟩ (.string x1)).setCell ⟨w.heap.size, 2, none⟩ (.string x2)) := ⟨_, rfl⟩
                          rw [← hW3] at q0 q1 q2 hbz ⊢
                          have q0' : W3.drew.cell? ⟨w.heap.size, 0, none⟩ = some (.int .i64 (t.toNat : Int)) := q0
                          have q1' : W3.drew.cell? ⟨w.heap.size, 1, none⟩ = some (.string x1) := q1
                          have q2' : W3.drew.cell? ⟨w.heap.size, 2, none⟩ = some (.string x2) := q2
                          exact bodyPost_ret (v := .tuple #[.agg #[.int .i64 (t.toNat : Int), .string x1, .string x2], .string x3, .int .i64 0]) (by simp [results, Tryd.results53, go_sem, q0', q1', q2']) rfl ⟨by rw [HN.out]; rfl, hbz.drew⟩
            · have hNi : (n.toNat : Int) = 130 := by omega
              have hbn : ¬ n.toNat < 128 := by omega
              have HX3 := hide (HX2.out.trans (if_neg hbn))
              have hql : (s.data.toList.drop 2).length = s.size - 2 := by rw [List.length_drop, size_string]
              have hk9 : n.toNat - 128 = 2 := by omega
              rw [hk9, hql] at HX3
              have HK9 := hide hk9
              clear hbad hsm e1 e2 hnb hbn hk hk9
              by_cases hq : s.size - 2 < 2
              · have HE := hide (HX3.out.trans (if_pos hq))
                have hlt3 : (s.size : Int) < 4 := by omega
                clear hq hql
                have HN := hide (show r = .error 3 by exact HE.out)
                obtain ⟨r0, r1, r2, f0, f1, f2⟩ := HR0.out.facts
                obtain ⟨n0, n1, n2, -, -, -⟩ := HR1.out.facts
                go_wp2_with fail
                obtain ⟨q0, q1, q2⟩ := HR0.out.store (.int .i64 0) (.string ⟨#[]⟩) (.string ⟨#[]⟩)
                have hbz := below_store3' HB0.out (Nat.le_refl w.heap.size) (.int .i64 0) (.string ⟨#[]⟩) (.string ⟨#[]⟩)
                obtain ⟨W3, hW3⟩ : ∃ W3, W3 = ((W.setCell ⟨w.heap.size, 0, none⟩ (.int .i64 0)).setCell ⟨w.heap.size, 1, none⟩ (.string ⟨#[]⟩)).setCell ⟨w.heap.size, 2, none⟩ (.string ⟨#[]⟩) := ⟨_, rfl⟩
                rw [← hW3] at q0 q1 q2 hbz ⊢
                exact bodyPost_ret (v := .tuple #[.agg #[(.int .i64 0), (.string ⟨#[]⟩), (.string ⟨#[]⟩)], .string ⟨#[]⟩, .int .i64 3]) (by simp [results, Tryd.results53, go_sem, q0, q1, q2]) rfl ⟨by rw [HN.out]; rfl, hbz⟩
              · have HX4 := hide (HX3.out.trans (if_neg hq))
                have hlt3 : ¬ (s.size : Int) < 4 := by omega
                obtain ⟨l, hl⟩ : ∃ l, (s.data.toList.drop 2).take 2 = l := ⟨_, rfl⟩
                rw [hl] at HX4
                have hll : l.length = 2 := by rw [← hl, List.length_take, hql]; omega
                have hsl := slice_str (P := Tryd.prog) 9 Tryd.underlying9 s 2 4 2 4 rfl rfl (by omega) (by omega)
                obtain ⟨x, hx⟩ : ∃ x, s.extract 2 4 = x := ⟨_, rfl⟩
                have HL := hide (show x.data.toList = l by rw [← hx, Lib.extract_data, ← hl])
                rw [hx] at hsl
                have hml : l.length ≤ maxLen := by rw [hll]; decide
                have HLL := hide hll
                clear hq hql hl hx hll
                go_wp2_with (with_reducible refine wpList_str_bts _ rfl (.tmp 49) 9 56 5 rfl Tryd.underlying9 Tryd.underlying56 Tryd.underlying5 x rfl l HL.out hml ?_; intro g c w1 hg1 hg2 hb1 hby hc1 hc2)
                rw [HLL.out] at hc1 ⊢
                go_loopw [7, 52] (fun v i wr => w1 = wr ∧ ∃ j : Nat, j ≤ 2 ∧ i = .int .i64 j ∧ v = .int .i64 (beB (l.take j) : Nat)) (fun _ i _ => 2 - (intOf i).toNat)
                case atStart => exact ⟨rfl, 0, by omega, rfl, rfl⟩
                case round =>
                  obtain ⟨rfl, j, hj, rfl, rfl⟩ := hrel
                  have HR0 := hide (HR0.out.below hb1)
                  have HR1 := hide (HR1.out.below hb1)
                  have HB0 := hide (HB0.out.trans (hb1.mono HB0.out.size))
                  by_cases hlt : j < 2
                  · have hjl : j < l.length := by rw [HLL.out]; exact hlt
                    have hcell := hby.cell hjl
                    have hsn := beB_snoc (l.take j) l[j]
                    rw [← List.take_succ_eq_append_getElem hjl] at hsn
                    have hbl := beB_le (l := l.take j) (by rw [List.length_take]; omega)
                    obtain ⟨c1, hc1'⟩ : ∃ c1, l[j] = c1 := ⟨_, rfl⟩
                    rw [hc1'] at hcell hsn
                    obtain ⟨v, hv⟩ : ∃ v, beB (l.take j) = v := ⟨_, rfl⟩
                    rw [hv] at hsn hbl ⊢
                    have hor := i64_or_shift8 v c1.toNat (by omega) c1.toNat_lt
                    have HSN := hide hsn
                    have hcb := byte_lt c1
                    clear hc1' hv hsn hb1 hby
                    go_wp2_with fail
                    go_roundw
                    case rel => exact ⟨trivial, j + 1, by omega, by go_num, by rw [HSN.out]; go_num⟩
                    case measure => simp [intOf]; omega
                  · have hjk : j = 2 := by omega
                    have hvv : beB (l.take j) = beB l := by rw [List.take_of_length_le (by rw [HLL.out]; omega)]
                    rw [hvv]
                    obtain ⟨N, hN⟩ : ∃ N, beB l = N := ⟨_, rfl⟩
                    rw [hN] at HX4 ⊢
                    have hNb := beB_le (l := l) (by rw [HLL.out]; decide)
                    rw [hN] at hNb
                    clear hb1 hby hvv hN
                    go_wp2_with fail
                    refine (least_v 2 (by omega) (by omega) 256 rfl _).mono ?_
                    rintro e w2 ⟨rfl, rfl⟩
                    by_cases hbad : N < 256 ∨ 131072 < N
                    · have HE := hide (HX4.out.trans (if_pos (show N < leastB 2 ∨ 131072 < N from hbad)))
                      rcases hbad with hbad | hbad
                      · have e1 : (N : Int) < 256 := by omega
                        clear hbad
                        have HN := hide (show r = .error 6 by exact HE.out)
                        obtain ⟨r0, r1, r2, f0, f1, f2⟩ := HR0.out.facts
                        obtain ⟨n0, n1, n2, -, -, -⟩ := HR1.out.facts
                        go_wp2_with fail
                        obtain ⟨q0, q1, q2⟩ := HR0.out.store (.int .i64 0) (.string ⟨#[]⟩) (.string ⟨#[]⟩)
                        have hbz := below_store3' HB0.out (Nat.le_refl w.heap.size) (.int .i64 0) (.string ⟨#[]⟩) (.string ⟨#[]⟩)
                        obtain ⟨W3, hW3⟩ : ∃ W3, W3 = ((w1.setCell ⟨w.heap.size, 0, none⟩ (.int .i64 0)).setCell ⟨w.heap.size, 1, none⟩ (.string ⟨#[]⟩)).setCell ⟨w.heap.size, 2, none⟩ (.string ⟨#[]⟩) := ⟨_, rfl⟩
                        rw [← hW3] at q0 q1 q2 hbz ⊢
                        exact bodyPost_ret (v := .tuple #[.agg #[(.int .i64 0), (.string ⟨#[]⟩), (.string ⟨#[]⟩)], .string ⟨#[]⟩, .int .i64 6]) (by simp [results, Tryd.results53, go_sem, q0, q1, q2]) rfl ⟨by rw [HN.out]; rfl, hbz⟩
                      · have e1 : ¬ (N : Int) < 256 := by omega
                        have e2 : (131072 : Int) < (N : Int) := by omega
                        clear hbad
                        have HN := hide (show r = .error 6 by exact HE.out)
                        obtain ⟨r0, r1, r2, f0, f1, f2⟩ := HR0.out.facts
                        obtain ⟨n0, n1, n2, -, -, -⟩ := HR1.out.facts
                        go_wp2_with fail
                        obtain ⟨q0, q1, q2⟩ := HR0.out.store (.int .i64 0) (.string ⟨#[]⟩) (.string ⟨#[]⟩)
                        have hbz := below_store3' HB0.out (Nat.le_refl w.heap.size) (.int .i64 0) (.string ⟨#[]⟩) (.string ⟨#[]⟩)
                        obtain ⟨W3, hW3⟩ : ∃ W3, W3 = ((w1.setCell ⟨w.heap.size, 0, none⟩ (.int .i64 0)).setCell ⟨w.heap.size, 1, none⟩ (.string ⟨#[]⟩)).setCell ⟨w.heap.size, 2, none⟩ (.string ⟨#[]⟩) := ⟨_, rfl⟩
                        rw [← hW3] at q0 q1 q2 hbz ⊢
                        exact bodyPost_ret (v := .tuple #[.agg #[(.int .i64 0), (.string ⟨#[]⟩), (.string ⟨#[]⟩)], .string ⟨#[]⟩, .int .i64 6]) (by simp [results, Tryd.results53, go_sem, q0, q1, q2]) rfl ⟨by rw [HN.out]; rfl, hbz⟩
                    · have HX5 := hide (HX4.out.trans (if_neg (show ¬ (N < leastB 2 ∨ 131072 < N) from hbad)))
                      have e1 : ¬ (N : Int) < 256 := by omega
                      have e2 : ¬ (131072 : Int) < (N : Int) := by omega
                      clear hbad
                      by_cases hc : s.size - 4 < N
                      · have hci : (s.size : Int) - 4 < (N : Int) := by omega
                        have HE := hide (show r = .error 3 by rw [HX5.out, ← HS.out, cutE, cutB, if_pos (by rw [size_string]; exact hc)])
                        clear hc
                        have HN := hide (show r = .error 3 by exact HE.out)
                        obtain ⟨r0, r1, r2, f0, f1, f2⟩ := HR0.out.facts
                        obtain ⟨n0, n1, n2, -, -, -⟩ := HR1.out.facts
                        go_wp2_with fail
                        obtain ⟨q0, q1, q2⟩ := HR0.out.store (.int .i64 0) (.string ⟨#[]⟩) (.string ⟨#[]⟩)
                        have hbz := below_store3' HB0.out (Nat.le_refl w.heap.size) (.int .i64 0) (.string ⟨#[]⟩) (.string ⟨#[]⟩)
                        obtain ⟨W3, hW3⟩ : ∃ W3, W3 = ((w1.setCell ⟨w.heap.size, 0, none⟩ (.int .i64 0)).setCell ⟨w.heap.size, 1, none⟩ (.string ⟨#[]⟩)).setCell ⟨w.heap.size, 2, none⟩ (.string ⟨#[]⟩) := ⟨_, rfl⟩
                        rw [← hW3] at q0 q1 q2 hbz ⊢
                        exact bodyPost_ret (v := .tuple #[.agg #[(.int .i64 0), (.string ⟨#[]⟩), (.string ⟨#[]⟩)], .string ⟨#[]⟩, .int .i64 3]) (by simp [results, Tryd.results53, go_sem, q0, q1, q2]) rfl ⟨by rw [HN.out]; rfl, hbz⟩
                      · have hci : ¬ (s.size : Int) - 4 < (N : Int) := by omega
                        have hnb : (0 : Int) ≤ 0 := by omega
                        have hw1 : IntKind.i64.wrap (4 + (N : Int)) = 4 + (N : Int) := IntWalk.i64_in _ (by omega)
                        have hle : 4 + N ≤ s.size := by omega
                        have hs1 := slice_str (P := Tryd.prog) 9 Tryd.underlying9 s 4 (4 + N) 4 (4 + (N : Int)) rfl (by omega) (by omega) hle
                        have hs2 := slice_to (P := Tryd.prog) 9 Tryd.underlying9 s (4 + N) (4 + (N : Int)) (by omega) hle
                        have hs3 := slice_from (P := Tryd.prog) 9 Tryd.underlying9 s (4 + N) (4 + (N : Int)) (by omega) hle
                        obtain ⟨x1, hx1⟩ : ∃ x, s.extract 4 (4 + N) = x := ⟨_, rfl⟩
                        obtain ⟨x2, hx2⟩ : ∃ x, s.extract 0 (4 + N) = x := ⟨_, rfl⟩
                        obtain ⟨x3, hx3⟩ : ∃ x, s.extract (4 + N) s.size = x := ⟨_, rfl⟩
                        rw [hx1] at hs1
                        rw [hx2] at hs2
                        rw [hx3] at hs3
                        have HN := hide (show r = .ok ((t.toNat, x1.data.toList, x2.data.toList), x3.data.toList) by
                          rw [HX5.out, ← HS.out, cutE, cutB, if_neg (by rw [size_string]; omega), ← hx1, ← hx2, ← hx3, Lib.extract_data, Lib.extract_data, bytes_drop]
                          simp only [Nat.add_sub_cancel_left, Nat.sub_zero, List.drop_zero])
                        clear hx1 hx2 hx3 hle hnb
                        obtain ⟨r0, r1, r2, f0, f1, f2⟩ := HR0.out.facts
                        go_upto_region 27 with fail
                        go_region
                        all_goals
                          go_wp2_with fail
                          obtain ⟨q0, q1, q2⟩ := HR0.out.store (.int .i64 (t.toNat : Int)) (.string x1) (.string x2)
                          have hbz := below_store3' HB0.out (Nat.le_refl w.heap.size) (.int .i64 (t.toNat : Int)) (.string x1) (.string x2)
                          obtain ⟨W3, hW3⟩ : ∃ W3, W3 = (((w1.setCell ⟨w.heap.size, 0, none⟩ (.int .i64 (t.toNat : Int))).setCell ⟨w.heap.size, 1, none⟩ (.string x1)).setCell ⟨w.heap.size, 2, none⟩ (.string x2)) := ⟨_, rfl⟩
                          rw [← hW3] at q0 q1 q2 hbz ⊢
                          have q0' : W3.drew.cell? ⟨w.heap.size, 0, none⟩ = some (.int .i64 (t.toNat : Int)) := q0
                          have q1' : W3.drew.cell? ⟨w.heap.size, 1, none⟩ = some (.string x1) := q1
                          have q2' : W3.drew.cell? ⟨w.heap.size, 2, none⟩ = some (.string x2) := q2
                          exact bodyPost_ret (v := .tuple #[.agg #[.int .i64 (t.toNat : Int), .string x1, .string x2], .string x3, .int .i64 0]) (by simp [results, Tryd.results53, go_sem, q0', q1', q2']) rfl ⟨by rw [HN.out]; rfl, hbz.drew⟩
            · have hNi : (n.toNat : Int) = 131 := by omega
              have hbn : ¬ n.toNat < 128 := by omega
              have HX3 := hide (HX2.out.trans (if_neg hbn))
              have hql : (s.data.toList.drop 2).length = s.size - 2 := by rw [List.length_drop, size_string]
              have hk9 : n.toNat - 128 = 3 := by omega
              rw [hk9, hql] at HX3
              have HK9 := hide hk9
              clear hbad hsm e1 e2 hnb hbn hk hk9
              by_cases hq : s.size - 2 < 3
              · have HE := hide (HX3.out.trans (if_pos hq))
                have hlt3 : (s.size : Int) < 5 := by omega
                clear hq hql
                have HN := hide (show r = .error 3 by exact HE.out)
                obtain ⟨r0, r1, r2, f0, f1, f2⟩ := HR0.out.facts
                obtain ⟨n0, n1, n2, -, -, -⟩ := HR1.out.facts
                go_wp2_with fail
                obtain ⟨q0, q1, q2⟩ := HR0.out.store (.int .i64 0) (.string ⟨#[]⟩) (.string ⟨#[]⟩)
                have hbz := below_store3' HB0.out (Nat.le_refl w.heap.size) (.int .i64 0) (.string ⟨#[]⟩) (.string ⟨#[]⟩)
                obtain ⟨W3, hW3⟩ : ∃ W3, W3 = ((W.setCell ⟨w.heap.size, 0, none⟩ (.int .i64 0)).setCell ⟨w.heap.size, 1, none⟩ (.string ⟨#[]⟩)).setCell ⟨w.heap.size, 2, none⟩ (.string ⟨#[]⟩) := ⟨_, rfl⟩
                rw [← hW3] at q0 q1 q2 hbz ⊢
                exact bodyPost_ret (v := .tuple #[.agg #[(.int .i64 0), (.string ⟨#[]⟩), (.string ⟨#[]⟩)], .string ⟨#[]⟩, .int .i64 3]) (by simp [results, Tryd.results53, go_sem, q0, q1, q2]) rfl ⟨by rw [HN.out]; rfl, hbz⟩
              · have HX4 := hide (HX3.out.trans (if_neg hq))
                have hlt3 : ¬ (s.size : Int) < 5 := by omega
                obtain ⟨l, hl⟩ : ∃ l, (s.data.toList.drop 2).take 3 = l := ⟨_, rfl⟩
                rw [hl] at HX4
                have hll : l.length = 3 := by rw [← hl, List.length_take, hql]; omega
                have hsl := slice_str (P := Tryd.prog) 9 Tryd.underlying9 s 2 5 2 5 rfl rfl (by omega) (by omega)
                obtain ⟨x, hx⟩ : ∃ x, s.extract 2 5 = x := ⟨_, rfl⟩
                have HL := hide (show x.data.toList = l by rw [← hx, Lib.extract_data, ← hl])
                rw [hx] at hsl
                have hml : l.length ≤ maxLen := by rw [hll]; decide
                have HLL := hide hll
                clear hq hql hl hx hll
                go_wp2_with (with_reducible refine wpList_str_bts _ rfl (.tmp 49) 9 56 5 rfl Tryd.underlying9 Tryd.underlying56 Tryd.underlying5 x rfl l HL.out hml ?_; intro g c w1 hg1 hg2 hb1 hby hc1 hc2)
                rw [HLL.out] at hc1 ⊢
                go_loopw [7, 52] (fun v i wr => w1 = wr ∧ ∃ j : Nat, j ≤ 3 ∧ i = .int .i64 j ∧ v = .int .i64 (beB (l.take j) : Nat)) (fun _ i _ => 3 - (intOf i).toNat)
                case atStart => exact ⟨rfl, 0, by omega, rfl, rfl⟩
                case round =>
                  obtain ⟨rfl, j, hj, rfl, rfl⟩ := hrel
                  have HR0 := hide (HR0.out.below hb1)
                  have HR1 := hide (HR1.out.below hb1)
                  have HB0 := hide (HB0.out.trans (hb1.mono HB0.out.size))
                  by_cases hlt : j < 3
                  · have hjl : j < l.length := by rw [HLL.out]; exact hlt
                    have hcell := hby.cell hjl
                    have hsn := beB_snoc (l.take j) l[j]
                    rw [← List.take_succ_eq_append_getElem hjl] at hsn
                    have hbl := beB_le (l := l.take j) (by rw [List.length_take]; omega)
                    obtain ⟨c1, hc1'⟩ : ∃ c1, l[j] = c1 := ⟨_, rfl⟩
                    rw [hc1'] at hcell hsn
                    obtain ⟨v, hv⟩ : ∃ v, beB (l.take j) = v := ⟨_, rfl⟩
                    rw [hv] at hsn hbl ⊢
                    have hor := i64_or_shift8 v c1.toNat (by omega) c1.toNat_lt
                    have HSN := hide hsn
                    have hcb := byte_lt c1
                    clear hc1' hv hsn hb1 hby
                    go_wp2_with fail
                    go_roundw
                    case rel => exact ⟨trivial, j + 1, by omega, by go_num, by rw [HSN.out]; go_num⟩
                    case measure => simp [intOf]; omega
                  · have hjk : j = 3 := by omega
                    have hvv : beB (l.take j) = beB l := by rw [List.take_of_length_le (by rw [HLL.out]; omega)]
                    rw [hvv]
                    obtain ⟨N, hN⟩ : ∃ N, beB l = N := ⟨_, rfl⟩
                    rw [hN] at HX4 ⊢
                    have hNb := beB_le (l := l) (by rw [HLL.out]; decide)
                    rw [hN] at hNb
                    clear hb1 hby hvv hN
                    go_wp2_with fail
                    refine (least_v 3 (by omega) (by omega) 65536 rfl _).mono ?_
                    rintro e w2 ⟨rfl, rfl⟩
                    by_cases hbad : N < 65536 ∨ 131072 < N
                    · have HE := hide (HX4.out.trans (if_pos (show N < leastB 3 ∨ 131072 < N from hbad)))
                      rcases hbad with hbad | hbad
                      · have e1 : (N : Int) < 65536 := by omega
                        clear hbad
                        have HN := hide (show r = .error 6 by exact HE.out)
                        obtain ⟨r0, r1, r2, f0, f1, f2⟩ := HR0.out.facts
                        obtain ⟨n0, n1, n2, -, -, -⟩ := HR1.out.facts
                        go_wp2_with fail
                        obtain ⟨q0, q1, q2⟩ := HR0.out.store (.int .i64 0) (.string ⟨#[]⟩) (.string ⟨#[]⟩)
                        have hbz := below_store3' HB0.out (Nat.le_refl w.heap.size) (.int .i64 0) (.string ⟨#[]⟩) (.string ⟨#[]⟩)
                        obtain ⟨W3, hW3⟩ : ∃ W3, W3 = ((w1.setCell ⟨w.heap.size, 0, none⟩ (.int .i64 0)).setCell ⟨w.heap.size, 1, none⟩ (.string ⟨#[]⟩)).setCell ⟨w.heap.size, 2, none⟩ (.string ⟨#[]⟩) := ⟨_, rfl⟩
                        rw [← hW3] at q0 q1 q2 hbz ⊢
                        exact bodyPost_ret (v := .tuple #[.agg #[(.int .i64 0), (.string ⟨#[]⟩), (.string ⟨#[]⟩)], .string ⟨#[]⟩, .int .i64 6]) (by simp [results, Tryd.results53, go_sem, q0, q1, q2]) rfl ⟨by rw [HN.out]; rfl, hbz⟩
                      · have e1 : ¬ (N : Int) < 65536 := by omega
                        have e2 : (131072 : Int) < (N : Int) := by omega
                        clear hbad
                        have HN := hide (show r = .error 6 by exact HE.out)
                        obtain ⟨r0, r1, r2, f0, f1, f2⟩ := HR0.out.facts
                        obtain ⟨n0, n1, n2, -, -, -⟩ := HR1.out.facts
                        go_wp2_with fail
                        obtain ⟨q0, q1, q2⟩ := HR0.out.store (.int .i64 0) (.string ⟨#[]⟩) (.string ⟨#[]⟩)
                        have hbz := below_store3' HB0.out (Nat.le_refl w.heap.size) (.int .i64 0) (.string ⟨#[]⟩) (.string ⟨#[]⟩)
                        obtain ⟨W3, hW3⟩ : ∃ W3, W3 = ((w1.setCell ⟨w.heap.size, 0, none⟩ (.int .i64 0)).setCell ⟨w.heap.size, 1, none⟩ (.string ⟨#[]⟩)).setCell ⟨w.heap.size, 2, none⟩ (.string ⟨#[]⟩) := ⟨_, rfl⟩
                        rw [← hW3] at q0 q1 q2 hbz ⊢
                        exact bodyPost_ret (v := .tuple #[.agg #[(.int .i64 0), (.string ⟨#[]⟩), (.string ⟨#[]⟩)], .string ⟨#[]⟩, .int .i64 6]) (by simp [results, Tryd.results53, go_sem, q0, q1, q2]) rfl ⟨by rw [HN.out]; rfl, hbz⟩
                    · have HX5 := hide (HX4.out.trans (if_neg (show ¬ (N < leastB 3 ∨ 131072 < N) from hbad)))
                      have e1 : ¬ (N : Int) < 65536 := by omega
                      have e2 : ¬ (131072 : Int) < (N : Int) := by omega
                      clear hbad
                      by_cases hc : s.size - 5 < N
                      · have hci : (s.size : Int) - 5 < (N : Int) := by omega
                        have HE := hide (show r = .error 3 by rw [HX5.out, ← HS.out, cutE, cutB, if_pos (by rw [size_string]; exact hc)])
                        clear hc
                        have HN := hide (show r = .error 3 by exact HE.out)
                        obtain ⟨r0, r1, r2, f0, f1, f2⟩ := HR0.out.facts
                        obtain ⟨n0, n1, n2, -, -, -⟩ := HR1.out.facts
                        go_wp2_with fail
                        obtain ⟨q0, q1, q2⟩ := HR0.out.store (.int .i64 0) (.string ⟨#[]⟩) (.string ⟨#[]⟩)
                        have hbz := below_store3' HB0.out (Nat.le_refl w.heap.size) (.int .i64 0) (.string ⟨#[]⟩) (.string ⟨#[]⟩)
                        obtain ⟨W3, hW3⟩ : ∃ W3, W3 = ((w1.setCell ⟨w.heap.size, 0, none⟩ (.int .i64 0)).setCell ⟨w.heap.size, 1, none⟩ (.string ⟨#[]⟩)).setCell ⟨w.heap.size, 2, none⟩ (.string ⟨#[]⟩) := ⟨_, rfl⟩
                        rw [← hW3] at q0 q1 q2 hbz ⊢
                        exact bodyPost_ret (v := .tuple #[.agg #[(.int .i64 0), (.string ⟨#[]⟩), (.string ⟨#[]⟩)], .string ⟨#[]⟩, .int .i64 3]) (by simp [results, Tryd.results53, go_sem, q0, q1, q2]) rfl ⟨by rw [HN.out]; rfl, hbz⟩
                      · have hci : ¬ (s.size : Int) - 5 < (N : Int) := by omega
                        have hnb : (0 : Int) ≤ 0 := by omega
                        have hw1 : IntKind.i64.wrap (5 + (N : Int)) = 5 + (N : Int) := IntWalk.i64_in _ (by omega)
                        have hle : 5 + N ≤ s.size := by omega
                        have hs1 := slice_str (P := Tryd.prog) 9 Tryd.underlying9 s 5 (5 + N) 5 (5 + (N : Int)) rfl (by omega) (by omega) hle
                        have hs2 := slice_to (P := Tryd.prog) 9 Tryd.underlying9 s (5 + N) (5 + (N : Int)) (by omega) hle
                        have hs3 := slice_from (P := Tryd.prog) 9 Tryd.underlying9 s (5 + N) (5 + (N : Int)) (by omega) hle
                        obtain ⟨x1, hx1⟩ : ∃ x, s.extract 5 (5 + N) = x := ⟨_, rfl⟩
                        obtain ⟨x2, hx2⟩ : ∃ x, s.extract 0 (5 + N) = x := ⟨_, rfl⟩
                        obtain ⟨x3, hx3⟩ : ∃ x, s.extract (5 + N) s.size = x := ⟨_, rfl⟩
                        rw [hx1] at hs1
                        rw [hx2] at hs2
                        rw [hx3] at hs3
                        have HN := hide (show r = .ok ((t.toNat, x1.data.toList, x2.data.toList), x3.data.toList) by
                          rw [HX5.out, ← HS.out, cutE, cutB, if_neg (by rw [size_string]; omega), ← hx1, ← hx2, ← hx3, Lib.extract_data, Lib.extract_data, bytes_drop]
                          simp only [Nat.add_sub_cancel_left, Nat.sub_zero, List.drop_zero])
                        clear hx1 hx2 hx3 hle hnb
                        obtain ⟨r0, r1, r2, f0, f1, f2⟩ := HR0.out.facts
                        go_upto_region 27 with fail
                        go_region
                        all_goals
                          go_wp2_with fail
                          obtain ⟨q0, q1, q2⟩ := HR0.out.store (.int .i64 (t.toNat : Int)) (.string x1) (.string x2)
                          have hbz := below_store3' HB0.out (Nat.le_refl w.heap.size) (.int .i64 (t.toNat : Int)) (.string x1) (.string x2)
                          obtain ⟨W3, hW3⟩ : ∃ W3, W3 = (((w1.setCell ⟨w.heap.size, 0, none⟩ (.int .i64 (t.toNat : Int))).setCell ⟨w.heap.size, 1, none⟩ (.string x1)).setCell ⟨w.heap.size, 2, none⟩ (.string x2)) := ⟨_, rfl⟩
                          rw [← hW3] at q0 q1 q2 hbz ⊢
                          have q0' : W3.drew.cell? ⟨w.heap.size, 0, none⟩ = some (.int .i64 (t.toNat : Int)) := q0
                          have q1' : W3.drew.cell? ⟨w.heap.size, 1, none⟩ = some (.string x1) := q1
                          have q2' : W3.drew.cell? ⟨w.heap.size, 2, none⟩ = some (.string x2) := q2
                          exact bodyPost_ret (v := .tuple #[.agg #[.int .i64 (t.toNat : Int), .string x1, .string x2], .string x3, .int .i64 0]) (by simp [results, Tryd.results53, go_sem, q0', q1', q2']) rfl ⟨by rw [HN.out]; rfl, hbz.drew⟩
end Go.Proofs.YtbafpgdmnkkclaaDoor
