/- The reference's DNSWithin, parts, Mail. -/
import Derived.Test.YtodapmkdmkhhfaaGreatDoorRefB
import Derived.Test.YtodapmkdmkhhfaaGreatDoorHos2
namespace Go.Proofs.YtodapmkdmkhhfaaGreatDoor
open Go.RowKit


set_option maxHeartbeats 4000000 in
theorem rdnsW_any (s b : ByteArray) (hs : s.size ≤ 100000) (hb : b.size ≤ 100000) (q : Bool) (hq : dnsWB s.data.toList b.data.toList = q) (w : World) :
    Calls Tryz.prog 68 #[.string s, .string b] w fun e w' => e = .returned (.bool q) ∧ Below w.heap.size w w' := by
  obtain ⟨tb, htb⟩ : ∃ tb, tb = (⟨#[46]⟩ : ByteArray) ++ b := ⟨_, rfl⟩
  have htb2 : (⟨#[46]⟩ : ByteArray) ++ b = tb := htb.symm
  have hz1 : (⟨#[46]⟩ : ByteArray).size = 1 := rfl
  have htbs : tb.size ≤ 1000000 := by rw [htb, ba_size]; omega
  have hbs : ¬ 9223372036854775807 < 1 + b.size := by omega
  have htl : tb.data.toList = 46 :: b.data.toList := by rw [htb, ba_append]; rfl
  obtain ⟨p1, hp1⟩ : ∃ p, patB s.data.toList = p := ⟨_, rfl⟩
  obtain ⟨p2, hp2⟩ : ∃ p, baseB b.data.toList = p := ⟨_, rfl⟩
  obtain ⟨p3, hp3⟩ : ∃ p, eqF s.data.toList b.data.toList = p := ⟨_, rfl⟩
  obtain ⟨p4, hp4⟩ : ∃ p, endsF s.data.toList tb.data.toList = p := ⟨_, rfl⟩
  have HN0 := hide (show ((emptyB s.data.toList || p1) && p2 && (emptyB b.data.toList || p3 || p4)) = q by rw [← hq, dnsWB, hp1, hp2, hp3, ← htl, hp4])
  have HP1 := hide hp1
  have HP2 := hide hp2
  have HP3 := hide hp3
  have HP4 := hide hp4
  clear hq htb hz1 htl hp1 hp2 hp3 hp4 
  rcases empty_cases s with ⟨h0, h1, h2, h3⟩ | ⟨h0, h1, h2, h3⟩
  · have HN := hide (show (p2 && (emptyB b.data.toList || p3 || p4)) = q by rw [← HN0.out, emptyB, h0]; rfl)
    have HB1 := hide (Below.refl w.heap.size w)
    clear h0
    go_enter Tryz.func68, Tryz.ntmps68
    go_wp2_with fail
    refine (rbase_any b (by omega) p2 HP2.out _).mono ?_
    rintro e w2 ⟨rfl, hb2⟩
    have HB2 := hide (HB1.out.trans (hb2.mono HB1.out.size))
    clear hb2
    cases p2
    · go_wp2_with fail
      go_ret
      exact ⟨ret_bool (by rw [← HN.out]; rfl), HB2.out⟩
    · rcases empty_cases b with ⟨g0, g1, g2, g3⟩ | ⟨g0, g1, g2, g3⟩
      · have HG := hide (show emptyB b.data.toList = true by rw [emptyB, g0]; rfl)
        clear g0
        go_wp2_with fail
        go_ret
        exact ⟨ret_bool (by rw [← HN.out, HG.out]; rfl), HB2.out⟩
      · have HG := hide (show emptyB b.data.toList = false from beq_eq_false_iff_ne.2 g0)
        clear g0
        go_wp2_with fail
        refine (ralike_any s b (by omega) (by omega) p3 HP3.out _).mono ?_
        rintro e w3 ⟨rfl, hb3⟩
        have HB3 := hide (HB2.out.trans (hb3.mono HB2.out.size))
        clear hb3
        cases p3
        · go_wp2_with fail
          refine (rends_any s tb (by omega) (by omega) p4 HP4.out _).mono ?_
          rintro e w4 ⟨rfl, hb4⟩
          go_wp2_with fail
          go_ret
          exact ⟨ret_bool (by rw [← HN.out, HG.out]; simp), HB3.out.trans (hb4.mono HB3.out.size)⟩
        · go_wp2_with fail
          go_ret
          exact ⟨ret_bool (by rw [← HN.out, HG.out]; rfl), HB3.out⟩
  · have HNn := hide (show (p1 && p2 && (emptyB b.data.toList || p3 || p4)) = q by rw [← HN0.out, show emptyB s.data.toList = false from beq_eq_false_iff_ne.2 h0]; rfl)
    clear h0
    go_enter Tryz.func68, Tryz.ntmps68
    go_wp2_with fail
    refine (rpattern_any s (by omega) p1 HP1.out _).mono ?_
    rintro e w1 ⟨rfl, hb1⟩
    have HB1 := hide hb1
    clear hb1
    cases p1
    · go_wp2_with fail
      go_ret
      exact ⟨ret_bool (by rw [← HNn.out]; rfl), HB1.out⟩
    · have HN := hide (show (p2 && (emptyB b.data.toList || p3 || p4)) = q by rw [← HNn.out]; rfl)
      go_wp2_with fail
      refine (rbase_any b (by omega) p2 HP2.out _).mono ?_
      rintro e w2 ⟨rfl, hb2⟩
      have HB2 := hide (HB1.out.trans (hb2.mono HB1.out.size))
      clear hb2
      cases p2
      · go_wp2_with fail
        go_ret
        exact ⟨ret_bool (by rw [← HN.out]; rfl), HB2.out⟩
      · rcases empty_cases b with ⟨g0, g1, g2, g3⟩ | ⟨g0, g1, g2, g3⟩
        · have HG := hide (show emptyB b.data.toList = true by rw [emptyB, g0]; rfl)
          clear g0
          go_wp2_with fail
          go_ret
          exact ⟨ret_bool (by rw [← HN.out, HG.out]; rfl), HB2.out⟩
        · have HG := hide (show emptyB b.data.toList = false from beq_eq_false_iff_ne.2 g0)
          clear g0
          go_wp2_with fail
          refine (ralike_any s b (by omega) (by omega) p3 HP3.out _).mono ?_
          rintro e w3 ⟨rfl, hb3⟩
          have HB3 := hide (HB2.out.trans (hb3.mono HB2.out.size))
          clear hb3
          cases p3
          · go_wp2_with fail
            refine (rends_any s tb (by omega) (by omega) p4 HP4.out _).mono ?_
            rintro e w4 ⟨rfl, hb4⟩
            go_wp2_with fail
            go_ret
            exact ⟨ret_bool (by rw [← HN.out, HG.out]; simp), HB3.out.trans (hb4.mono HB3.out.size)⟩
          · go_wp2_with fail
            go_ret
            exact ⟨ret_bool (by rw [← HN.out, HG.out]; rfl), HB3.out⟩
end Go.Proofs.YtodapmkdmkhhfaaGreatDoor
