/- The law TextMatch, its walk: matching is an equivalence. -/
import Derived.Test.YtbhcjohkbaaeiaaTxtM
namespace Go.Proofs.Ytbhcjohkbaaeiaa
open Go.RowKit

def foldB (a : ByteArray) : List UInt8 := foldG [] false a.data.toList
theorem Match_b (a b : ByteArray) (ha : a.size ≤ 1000000) (hb : b.size ≤ 1000000) (p : Bool) (hp : (foldB a == foldB b) = p) (w : World) :
    Calls Try.prog 15 #[.string a, .string b] w fun e w' => e = .returned (.bool p) ∧ Below w.heap.size w w' := by
  subst hp
  exact Match_any a b ha hb w


set_option maxRecDepth 100000 in
set_option maxHeartbeats 8000000 in
theorem TextMatch_any (l m n : List UInt8) (A1 A2 A3 : Option Addr) (n1 n2 n3 c1 c2 c3 : Nat) (w : World)
    (h1 : Sl RByte 1 w (Lt w.heap.size) l [.slice A1 n1 c1]) (h2 : Sl RByte 1 w (Lt w.heap.size) m [.slice A2 n2 c2]) (h3 : Sl RByte 1 w (Lt w.heap.size) n [.slice A3 n3 c3]) :
    Calls Try.prog 6 #[.slice A1 n1 c1, .slice A2 n2 c2, .slice A3 n3 c3] w fun e w' => e = .returned (.bool true) ∧ Below w.heap.size w w' := by
  obtain ⟨hn1, hnc1, hcm1⟩ := h1.len_
  unfold maxLen at hcm1
  have HN1 := hide hn1
  clear hn1
  have K1 := hide h1
  have K2 := hide h2
  have K3 := hide h3
  clear h1 h2 h3
  go_enter Try.func6, Try.ntmps6
  go_wp2_with fail
  refine (pieces_any l A1 n1 c1 _ K1.out).mono ?_
  rintro e w1 ⟨rfl, hb1⟩
  have HB := hide hb1
  go_wp2_with fail
  refine (pieces_any m A2 n2 c2 _ ((Sl.ok RByte.ok).mono K2.out (below_keeps hb1) (fun k hk => Nat.lt_of_lt_of_le hk hb1.size))).mono ?_
  rintro e w2 ⟨rfl, hb2⟩
  have hb2' := hb1.trans (hb2.mono hb1.size)
  have HB := hide hb2'
  clear hb2
  go_wp2_with fail
  refine (pieces_any n A3 n3 c3 _ ((Sl.ok RByte.ok).mono K3.out (below_keeps hb2') (fun k hk => Nat.lt_of_lt_of_le hk hb2'.size))).mono ?_
  rintro e w3 ⟨rfl, hb3⟩
  have HB := hide (hb2'.trans (hb3.mono hb2'.size))
  clear hb1 hb2' hb3
  have hl1 := piecesG_len l
  have hl2 := piecesG_len m
  have hl3 := piecesG_len n
  obtain ⟨a, ha⟩ : ∃ a : ByteArray, a = ⟨(piecesG l).toArray⟩ := ⟨_, rfl⟩
  obtain ⟨b, hb⟩ : ∃ a : ByteArray, a = ⟨(piecesG m).toArray⟩ := ⟨_, rfl⟩
  obtain ⟨d, hd⟩ : ∃ a : ByteArray, a = ⟨(piecesG n).toArray⟩ := ⟨_, rfl⟩
  have has : a.size ≤ 160 := by rw [ha]; exact hl1
  have hbs : b.size ≤ 160 := by rw [hb]; exact hl2
  have hds : d.size ≤ 160 := by rw [hd]; exact hl3
  rw [← ha, ← hb, ← hd]
  clear ha hb hd hl1 hl2 hl3
  by_cases hlt : n1 < 3
  · have hs1 : (⟨#[32]⟩ : ByteArray).size = 1 := rfl
    have hs2 : (⟨#[32, 32]⟩ : ByteArray).size = 2 := rfl
    have hx := ba_size (⟨#[32]⟩ ++ a) ⟨#[32, 32]⟩
    have hy := ba_size ⟨#[32]⟩ a
    have hz : ((⟨#[32]⟩ : ByteArray) ++ a ++ ⟨#[32, 32]⟩).size ≤ 163 := by omega
    clear hs1 hs2 hx hy
    go_wp2_with fail
    refine (Lower_any a (by omega) _).mono ?_
    rintro e w4 ⟨rfl, hb4⟩
    have HB := hide (HB.out.trans (hb4.mono HB.out.size))
    clear hb4
    obtain ⟨b', hb'⟩ : ∃ b' : ByteArray, b' = (⟨#[32]⟩ : ByteArray) ++ a ++ ⟨#[32, 32]⟩ := ⟨_, rfl⟩
    obtain ⟨d', hd'⟩ : ∃ d' : ByteArray, d' = ⟨(a.data.toList.map low).toArray⟩ := ⟨_, rfl⟩
    have hds' : d'.size ≤ 160 := by
      rw [hd', ← size_string]
      simp only [List.length_map]
      rw [size_string]
      exact has
    rw [← hb'] at hz ⊢
    rw [← hd']
    clear hb' hd' hbs hds
    go_wp2_with fail
    have haa : (foldB a == foldB a) = true := by simp
    obtain ⟨p, hp⟩ : ∃ p, (foldB a == foldB b') = p := ⟨_, rfl⟩
    obtain ⟨q, hq⟩ : ∃ q, (foldB b' == foldB d') = q := ⟨_, rfl⟩
    have hpr : (foldB b' == foldB a) = p := by rw [← hp]; exact Bool.beq_comm
    obtain ⟨r, hr⟩ : ∃ r, (foldB a == foldB d') = r := ⟨_, rfl⟩
    have hpq : p = true → q = true → r = true := by
      intro e1 e2
      rw [e1] at hp
      rw [e2] at hq
      rw [← hr]
      simp only [beq_iff_eq] at hp hq ⊢
      rw [hp, hq]
    have HPQ := hide hpq
    have H1 := hide haa
    have H2 := hide hp
    have H3 := hide hq
    have H4 := hide hpr
    have H5 := hide hr
    clear haa hp hq hpr hr hpq
    refine (awake_any _).mono ?_
    rintro e w9 ⟨rfl, hb9⟩
    have HB := hide (HB.out.trans (hb9.mono HB.out.size))
    clear hb9
    go_wp2_with fail
    refine (Match_b a a (by omega) (by omega) true H1.out _).mono ?_
    rintro e w9 ⟨rfl, hb9⟩
    have HB := hide (HB.out.trans (hb9.mono HB.out.size))
    clear hb9
    go_wp2_with fail
    cases p
    · refine (Match_b a b' (by omega) (by omega) false H2.out _).mono ?_
      rintro e w9 ⟨rfl, hb9⟩
      have HB := hide (HB.out.trans (hb9.mono HB.out.size))
      clear hb9
      go_wp2_with fail
      refine (Match_b b' a (by omega) (by omega) false H4.out _).mono ?_
      rintro e w9 ⟨rfl, hb9⟩
      have HB := hide (HB.out.trans (hb9.mono HB.out.size))
      clear hb9
      go_wp2_with fail
      refine (Match_b a b' (by omega) (by omega) false H2.out _).mono ?_
      rintro e w9 ⟨rfl, hb9⟩
      have HB := hide (HB.out.trans (hb9.mono HB.out.size))
      clear hb9
      go_wp2_with fail
      go_ret
      exact ⟨rfl, HB.out⟩
    · refine (Match_b a b' (by omega) (by omega) true H2.out _).mono ?_
      rintro e w9 ⟨rfl, hb9⟩
      have HB := hide (HB.out.trans (hb9.mono HB.out.size))
      clear hb9
      go_wp2_with fail
      refine (Match_b b' a (by omega) (by omega) true H4.out _).mono ?_
      rintro e w9 ⟨rfl, hb9⟩
      have HB := hide (HB.out.trans (hb9.mono HB.out.size))
      clear hb9
      go_wp2_with fail
      refine (Match_b a b' (by omega) (by omega) true H2.out _).mono ?_
      rintro e w9 ⟨rfl, hb9⟩
      have HB := hide (HB.out.trans (hb9.mono HB.out.size))
      clear hb9
      go_wp2_with fail
      cases q
      · refine (Match_b b' d' (by omega) (by omega) false H3.out _).mono ?_
        rintro e w9 ⟨rfl, hb9⟩
        have HB := hide (HB.out.trans (hb9.mono HB.out.size))
        clear hb9
        go_wp2_with fail
        go_ret
        exact ⟨rfl, HB.out⟩
      · obtain rfl := HPQ.out (by trivial) (by trivial)
        refine (Match_b b' d' (by omega) (by omega) true H3.out _).mono ?_
        rintro e w9 ⟨rfl, hb9⟩
        have HB := hide (HB.out.trans (hb9.mono HB.out.size))
        clear hb9
        go_wp2_with fail
        refine (Match_b a d' (by omega) (by omega) true H5.out _).mono ?_
        rintro e w9 ⟨rfl, hb9⟩
        have HB := hide (HB.out.trans (hb9.mono HB.out.size))
        clear hb9
        go_wp2_with fail
        go_ret
        exact ⟨rfl, HB.out⟩
  · go_wp2_with fail
    have haa : (foldB a == foldB a) = true := by simp
    obtain ⟨p, hp⟩ : ∃ p, (foldB a == foldB b) = p := ⟨_, rfl⟩
    obtain ⟨q, hq⟩ : ∃ q, (foldB b == foldB d) = q := ⟨_, rfl⟩
    have hpr : (foldB b == foldB a) = p := by rw [← hp]; exact Bool.beq_comm
    obtain ⟨r, hr⟩ : ∃ r, (foldB a == foldB d) = r := ⟨_, rfl⟩
    have hpq : p = true → q = true → r = true := by
      intro e1 e2
      rw [e1] at hp
      rw [e2] at hq
      rw [← hr]
      simp only [beq_iff_eq] at hp hq ⊢
      rw [hp, hq]
    have HPQ := hide hpq
    have H1 := hide haa
    have H2 := hide hp
    have H3 := hide hq
    have H4 := hide hpr
    have H5 := hide hr
    clear haa hp hq hpr hr hpq
    refine (awake_any _).mono ?_
    rintro e w9 ⟨rfl, hb9⟩
    have HB := hide (HB.out.trans (hb9.mono HB.out.size))
    clear hb9
    go_wp2_with fail
    refine (Match_b a a (by omega) (by omega) true H1.out _).mono ?_
    rintro e w9 ⟨rfl, hb9⟩
    have HB := hide (HB.out.trans (hb9.mono HB.out.size))
    clear hb9
    go_wp2_with fail
    cases p
    · refine (Match_b a b (by omega) (by omega) false H2.out _).mono ?_
      rintro e w9 ⟨rfl, hb9⟩
      have HB := hide (HB.out.trans (hb9.mono HB.out.size))
      clear hb9
      go_wp2_with fail
      refine (Match_b b a (by omega) (by omega) false H4.out _).mono ?_
      rintro e w9 ⟨rfl, hb9⟩
      have HB := hide (HB.out.trans (hb9.mono HB.out.size))
      clear hb9
      go_wp2_with fail
      refine (Match_b a b (by omega) (by omega) false H2.out _).mono ?_
      rintro e w9 ⟨rfl, hb9⟩
      have HB := hide (HB.out.trans (hb9.mono HB.out.size))
      clear hb9
      go_wp2_with fail
      go_ret
      exact ⟨rfl, HB.out⟩
    · refine (Match_b a b (by omega) (by omega) true H2.out _).mono ?_
      rintro e w9 ⟨rfl, hb9⟩
      have HB := hide (HB.out.trans (hb9.mono HB.out.size))
      clear hb9
      go_wp2_with fail
      refine (Match_b b a (by omega) (by omega) true H4.out _).mono ?_
      rintro e w9 ⟨rfl, hb9⟩
      have HB := hide (HB.out.trans (hb9.mono HB.out.size))
      clear hb9
      go_wp2_with fail
      refine (Match_b a b (by omega) (by omega) true H2.out _).mono ?_
      rintro e w9 ⟨rfl, hb9⟩
      have HB := hide (HB.out.trans (hb9.mono HB.out.size))
      clear hb9
      go_wp2_with fail
      cases q
      · refine (Match_b b d (by omega) (by omega) false H3.out _).mono ?_
        rintro e w9 ⟨rfl, hb9⟩
        have HB := hide (HB.out.trans (hb9.mono HB.out.size))
        clear hb9
        go_wp2_with fail
        go_ret
        exact ⟨rfl, HB.out⟩
      · obtain rfl := HPQ.out (by trivial) (by trivial)
        refine (Match_b b d (by omega) (by omega) true H3.out _).mono ?_
        rintro e w9 ⟨rfl, hb9⟩
        have HB := hide (HB.out.trans (hb9.mono HB.out.size))
        clear hb9
        go_wp2_with fail
        refine (Match_b a d (by omega) (by omega) true H5.out _).mono ?_
        rintro e w9 ⟨rfl, hb9⟩
        have HB := hide (HB.out.trans (hb9.mono HB.out.size))
        clear hb9
        go_wp2_with fail
        go_ret
        exact ⟨rfl, HB.out⟩
end Go.Proofs.Ytbhcjohkbaaeiaa
