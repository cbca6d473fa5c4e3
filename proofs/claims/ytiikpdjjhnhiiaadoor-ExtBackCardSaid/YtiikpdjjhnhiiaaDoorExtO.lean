/- Extensions that the laws make; the example. -/
import Derived.Test.YtiikpdjjhnhiiaaDoorExtN
import Derived.Test.YtiikpdjjhnhiiaaDoorMad1
namespace Go.Proofs.YtiikpdjjhnhiiaaDoor
open Go.RowKit

/-- some extensions, new in memory; of what was there only the deck has been written -/
def MadeX (d : Nat) (w : World) (e : Ending) (w' : World) : Prop :=
  ∃ (l : List Ext) (A : Option Addr) (c : Nat), e = .returned (.slice A l.length c) ∧ (∀ x ∈ l, x.1.length ≤ 1000 ∧ x.2.2.length ≤ 1000) ∧ Sl RExt 3 w' (Btw w.heap.size w'.heap.size) l [.slice A l.length c] ∧ DeckAt w' d ∧ Ex d w w'
theorem dec_v (n : Nat) (hn : n ≤ 1000) (y : ByteArray) (hy : y = ⟨(decL n).toArray⟩) (w : World) : Calls Tryd.prog 67 #[.int .i64 (n : Int)] w fun e w' => e = .returned (.string y) ∧ Below w.heap.size w w' := hy ▸ Dec_any n (n : Int) rfl (by omega) w
theorem XB.ex {g d : Nat} {i va : ByteArray} {cr : Bool} {W W' : World} (h : XB g i cr va W) (hx : Ex d W W') (hd : g ≠ d) : XB g i cr va W' := (hx.at_ h.lt hd).trans h
theorem XB.new (w : World) (i va : ByteArray) (cr : Bool) : XB w.heap.size i cr va (w.alloc (.cells #[.string i, .bool cr, .string va] 49)) := heap_alloc_new w _

theorem Ex.then_base9 {d B : Nat} {a b c : World} (h : Ex d a b) (k : Below B b c) (hB : a.heap.size ≤ B) : Ex d a c :=
  ⟨k.os.trans h.os, k.tape.trans h.tape, k.output.trans h.output, Nat.le_trans h.size k.size, fun j hj hne => (k.block j (by omega)).trans (h.block j hj hne)⟩

set_option maxRecDepth 100000 in
set_option maxHeartbeats 8000000 in
theorem listN_any (d n : Nat) (hn : n ≤ 1000) (w : World) (h : DeckAt w d) :
    Calls Tryd.prog 29 #[.pointer (some ⟨d, 0, none⟩), .int .i64 (n : Int)] w fun e w' => MadeX d w e w' ∧ ∀ A k c, e = .returned (.slice A k c) → k ≤ 1000 := by
  have hdw := h.lt
  have HD0 := hide h
  obtain ⟨base, hbase⟩ : ∃ b, b = w.heap.size := ⟨_, rfl⟩
  have HBASE := hide hbase
  have hdb : d < base := by omega
  have hgs0 : base ≤ w.heap.size := by omega
  have hwb : w.heap.size ≤ base := by omega
  clear h hbase
  go_enter Tryd.func29, Tryd.ntmps29
  go_wp2_with fail
  go_loopw [5, 6] (fun v i wr => ∃ (k : Nat) (out : List Ext), k ≤ n ∧ i = .int .i64 k ∧ out.length ≤ k ∧ (∀ x ∈ out, x.1.length ≤ 1000 ∧ x.2.2.length ≤ 1000) ∧ Own RExt 3 49 wr base No v out ∧ DeckAt wr d ∧ Ex d w wr ∧ base ≤ wr.heap.size) (fun _ i _ => n - (intOf i).toNat)
  case atStart => exact ⟨0, [], by omega, rfl, by simp, (fun x hx => by cases hx), Own.nil _ _ _ _ _ _, HD0.out, Ex.refl _ _, hgs0⟩
  case round =>
    obtain ⟨k, out, hk, rfl, hol, hox, hown, hd, hx, hgs⟩ := hrel
    have HOX := hide hox
    have HD := hide hd
    have HX := hide hx
    by_cases hlt : k < n
    · obtain ⟨A2, cp2, hv⟩ := (hown.sl RExt.ok).shape
      subst hv
      have HOWNr := hide hown
      clear hox hd hx hown
      have hdl := decL_len 2 k (by omega)
      obtain ⟨y, hy⟩ : ∃ y : ByteArray, y = ⟨(decL k).toArray⟩ := ⟨_, rfl⟩
      have hys : y.size ≤ 3 := by rw [hy, ba_mk]; exact hdl
      have HY := hide hy
      obtain ⟨P, hP⟩ : ∃ P : ByteArray, P = ⟨#[49, 46, 50, 46, 51, 46]⟩ := ⟨_, rfl⟩
      have hPs : P.size = 6 := by rw [hP]; rfl
      have hbs : ¬ 9223372036854775807 < P.size + y.size := by omega
      have hzs := ba_size P y
      obtain ⟨z, hz⟩ : ∃ yy9 : ByteArray, P ++ y = yy9 := ⟨_, rfl⟩
      rw [hz] at hzs
      rw [hP] at hz hbs
      clear hy hdl hP
      obtain ⟨wo, rfl⟩ : ∃ wo : World, wo = wr := ⟨_, rfl⟩
      go_wp2_with fail
      refine (dec_v k (by omega) y HY.out _).mono ?_
      rintro e w1 ⟨rfl, hb1⟩
      have HD1 := hide (HD.out.below hb1)
      have HX1 := hide (show Ex d wo w1 from Ex.of_below hb1)
      clear hb1
      go_wp2_with fail
      refine (Next_any d 2 (by omega) (by omega) _ HD1.out).mono ?_
      rintro e w2 ⟨v2, hv2, rfl, hd2, hx2⟩
      have HD2 := hide hd2
      have HX2 := hide (HX1.out.trans hx2)
      clear hd2 hx2 hbs hz
      obtain ⟨cr, hcr⟩ : ∃ cr, ((v2 : Int) == 1) = cr := ⟨_, rfl⟩
      have htab : ∀ q, q < 3 → ∃ vv : ByteArray, vv.size ≤ 5 ∧ (w2.alloc (.cells #[.string ⟨#[5, 0]⟩, .string ⟨#[48, 3, 2, 1, 7]⟩, .string ⟨#[4, 0]⟩] 9)).cell? ⟨w2.heap.size, q, none⟩ = some (.string vv) := fun q hq => by
        rw [World.cell?_alloc_new]
        match q, hq with
        | 0, _ => exact ⟨_, by decide, rfl⟩
        | 1, _ => exact ⟨_, by decide, rfl⟩
        | 2, _ => exact ⟨_, by decide, rfl⟩
      obtain ⟨wT, hwT⟩ : ∃ W, W = w2.alloc (.cells #[.string ⟨#[5, 0]⟩, .string ⟨#[48, 3, 2, 1, 7]⟩, .string ⟨#[4, 0]⟩] 9) := ⟨_, rfl⟩
      rw [← hwT] at htab
      have hbT : Below w2.heap.size w2 wT := by rw [hwT]; exact (Below.refl _ _).alloc (Nat.le_refl _) _
      have HDT := hide (HD2.out.below hbT)
      have HXT := hide (HX2.out.then_ hbT)
      have hgT : w2.heap.size < wT.heap.size := by rw [hwT]; simp
      have hgd : w2.heap.size ≠ d := by have := HX2.out.size; have := HX.out.size; omega
      go_wp2_with fail
      rw [← hwT]
      clear hwT hbT
      refine (Next_any d 3 (by omega) (by omega) _ HDT.out).mono ?_
      rintro e w3 ⟨v3, hv3, rfl, hd3, hx3⟩
      obtain ⟨va, hvas, hcv⟩ := htab v3 hv3
      have hcv3 := (hx3.cell (p := ⟨w2.heap.size, v3, none⟩) hgT hgd).trans hcv
      have HD3 := hide hd3
      have HX3 := hide (HXT.out.trans hx3)
      have hv3i : (v3 : Int) < 3 := by omega
      have hv30 : (0 : Int) ≤ (v3 : Int) := by omega
      clear hd3 hx3 htab hcv
      obtain ⟨gT, hgTT⟩ : ∃ g, w2.heap.size = g := ⟨_, rfl⟩
      rw [hgTT] at hcv3 hgT hgd ⊢
      clear hgTT
      go_upto_region 6 with fail
      obtain ⟨wX, hwX⟩ : ∃ W, W = w3.alloc (.cells #[.string z, .bool cr, .string va] 49) := ⟨_, rfl⟩
      have hX := XB.new w3 z va cr
      have hbX : Below w3.heap.size w3 wX := by rw [hwX]; exact (Below.refl _ _).alloc (Nat.le_refl _) _
      have HDX := hide (HD3.out.below hbX)
      have HXX := hide (HX3.out.then_ hbX)
      have hzX := hbX.size
      rw [← hwX] at hX ⊢
      obtain ⟨gX, hgX⟩ : ∃ g, w3.heap.size = g := ⟨_, rfl⟩
      have hgXd : gX ≠ d := by have := HX3.out.size; have := HX.out.size; omega
      have hgXb : base ≤ gX := by have := HX3.out.size; omega
      have hgXo : wo.heap.size ≤ gX := by have := HX3.out.size; omega
      rw [hgX] at hX ⊢
      have HXB := hide hX
      clear hwX hbX hcv3 hX hgX
      go_wp2_with fail
      refine (Next_any d 40 (by omega) (by omega) _ HDX.out).mono ?_
      rintro e w4 ⟨q, hq, rfl, hd4, hx4⟩
      have HD4 := hide hd4
      have HX4 := hide (HXX.out.trans hx4)
      have HXB4 := hide (HXB.out.ex hx4 hgXd)
      have HOWN := HOWNr
      clear hd4 hx4
      have hdgX : d < gX := by omega
      by_cases h1 : q = 1
      · have t1 : ((q : Int) == 1) = true := by rw [h1]; rfl
        obtain ⟨s0, s1, s2, g0, g1, g2⟩ := HXB4.out.facts
        obtain ⟨I, hI⟩ : ∃ I : ByteArray, I = ⟨#[49, 46, 50, 46, 51, 46, 48]⟩ := ⟨_, rfl⟩
        have hIs : I.size = 7 := by rw [hI]; rfl
        clear h1
        go_upto_region 13 with fail
        obtain ⟨w5, hw5⟩ : ∃ W, W = w4.setCell ⟨gX, 0, none⟩ (.string ⟨#[49, 46, 50, 46, 51, 46, 48]⟩) := ⟨_, rfl⟩
        have hX5 : XB gX I cr va w5 := by rw [hw5, hI]; exact HXB4.out.st0 _
        have hD5 : DeckAt w5 d := by rw [hw5]; exact HD4.out.set_ hdgX _
        have hE5 : Ex d wo w5 := by rw [hw5]; exact HX4.out.setNew hgXo _
        rw [← hw5]
        clear hw5 s0 s1 s2 g0 g1 g2 hI
        obtain ⟨s0, s1, s2, -, -, -⟩ := (hX5).facts
        have HDf := hide (hD5)
        have HEf := hide (hE5)
        have hown9 := HOWN.out.ex RExt.ok HEf.out hdb (fun k hk => hk.elim)
        have hsz9 := HEf.out.size
        have HOW9 := hide hown9
        clear hown9
        go_wp2_with (at_builtin; refine wpList_app RExt.ok _ rfl (.tmp 40) (.tmp 42) 50 rfl base 49 (.agg #[.string ⟨#[]⟩, .bool false, .string ⟨#[]⟩]) 40 Tryd.underlying50 info_ext rfl (by decide) No _ out rfl (HOW9.out.alloc RExt.ok (no_lt _) _) ⟨_, 0, none⟩ 1 1 [((ByteArray.data I).toList, cr, (ByteArray.data va).toList)] rfl rfl (news_ext _ _ _ cr I va) (no_lt _) (by simp; omega) (by simp [maxLen]; omega) (by simp; omega) ?_; intro v2 w2 hown2 hg2 hb2 hat2; have hsz2 := hb2.size; simp at hsz2)
        go_roundw
        case rel => exact ⟨k + 1, _, by omega, by go_num, by simp; omega, (fun x hx => by
          rcases List.mem_append.1 hx with hx | hx
          · exact HOX.out x hx
          · simp at hx; subst hx; exact ⟨by show (ByteArray.data I).toList.length ≤ 1000; rw [size_string]; omega, by show (ByteArray.data va).toList.length ≤ 1000; rw [size_string]; omega⟩), hown2, (HDf.out.alloc _).keep (hb2.mono hdb), ((HX.out.trans HEf.out).alloc _).then_base9 hb2 hwb, by omega⟩
        case measure => simp [intOf]; omega
      · have t1 : ((q : Int) == 1) = false := beq_false_of_ne (fun e => h1 (Int.ofNat.inj e))
        by_cases h2 : q = 2
        · have t2 : ((q : Int) == 2) = true := by rw [h2]; rfl
          obtain ⟨s0, s1, s2, g0, g1, g2⟩ := HXB4.out.facts
          clear h1 h2
          go_wp2_with fail
          refine (Damage_any d va (by omega) _ HD4.out).mono ?_
          rintro e w5 ⟨vb, hvbs, rfl, hd5, hx5⟩
          have hXB5 := HXB4.out.ex hx5 hgXd
          have HD5 := hide hd5
          have HX5 := hide (HX4.out.trans hx5)
          clear s0 s1 s2 g0 g1 g2 hd5 hx5
          obtain ⟨s0, s1, s2, g0, g1, g2⟩ := hXB5.facts
          go_upto_region 13 with fail
          obtain ⟨w6, hw6⟩ : ∃ W, W = w5.setCell ⟨gX, 2, none⟩ (.string vb) := ⟨_, rfl⟩
          have hX6 : XB gX z cr vb w6 := by rw [hw6]; exact hXB5.st2 _
          have hD6 : DeckAt w6 d := by rw [hw6]; exact HD5.out.set_ hdgX _
          have hE6 : Ex d wo w6 := by rw [hw6]; exact HX5.out.setNew hgXo _
          rw [← hw6]
          clear hw6 s0 s1 s2 g0 g1 g2
          obtain ⟨s0, s1, s2, -, -, -⟩ := (hX6).facts
          have HDf := hide (hD6)
          have HEf := hide (hE6)
          have hown9 := HOWN.out.ex RExt.ok HEf.out hdb (fun k hk => hk.elim)
          have hsz9 := HEf.out.size
          have HOW9 := hide hown9
          clear hown9
          go_wp2_with (at_builtin; refine wpList_app RExt.ok _ rfl (.tmp 40) (.tmp 42) 50 rfl base 49 (.agg #[.string ⟨#[]⟩, .bool false, .string ⟨#[]⟩]) 40 Tryd.underlying50 info_ext rfl (by decide) No _ out rfl (HOW9.out.alloc RExt.ok (no_lt _) _) ⟨_, 0, none⟩ 1 1 [((ByteArray.data z).toList, cr, (ByteArray.data vb).toList)] rfl rfl (news_ext _ _ _ cr z vb) (no_lt _) (by simp; omega) (by simp [maxLen]; omega) (by simp; omega) ?_; intro v2 w2 hown2 hg2 hb2 hat2; have hsz2 := hb2.size; simp at hsz2)
          go_roundw
          case rel => exact ⟨k + 1, _, by omega, by go_num, by simp; omega, (fun x hx => by
            rcases List.mem_append.1 hx with hx | hx
            · exact HOX.out x hx
            · simp at hx; subst hx; exact ⟨by show (ByteArray.data z).toList.length ≤ 1000; rw [size_string]; omega, by show (ByteArray.data vb).toList.length ≤ 1000; rw [size_string]; omega⟩), hown2, (HDf.out.alloc _).keep (hb2.mono hdb), ((HX.out.trans HEf.out).alloc _).then_base9 hb2 hwb, by omega⟩
          case measure => simp [intOf]; omega
        · have t2 : ((q : Int) == 2) = false := beq_false_of_ne (fun e => h2 (Int.ofNat.inj e))
          by_cases h3 : q = 3
          · have t3 : ((q : Int) == 3) = true := by rw [h3]; rfl
            obtain ⟨s0, s1, s2, g0, g1, g2⟩ := HXB4.out.facts
            obtain ⟨I, hI⟩ : ∃ I : ByteArray, I = ⟨#[51, 46, 49]⟩ := ⟨_, rfl⟩
            have hIs : I.size = 3 := by rw [hI]; rfl
            clear h1 h2 h3
            go_upto_region 13 with fail
            obtain ⟨w5, hw5⟩ : ∃ W, W = w4.setCell ⟨gX, 0, none⟩ (.string ⟨#[51, 46, 49]⟩) := ⟨_, rfl⟩
            have hX5 : XB gX I cr va w5 := by rw [hw5, hI]; exact HXB4.out.st0 _
            have hD5 : DeckAt w5 d := by rw [hw5]; exact HD4.out.set_ hdgX _
            have hE5 : Ex d wo w5 := by rw [hw5]; exact HX4.out.setNew hgXo _
            rw [← hw5]
            clear hw5 s0 s1 s2 g0 g1 g2 hI
            obtain ⟨s0, s1, s2, -, -, -⟩ := (hX5).facts
            have HDf := hide (hD5)
            have HEf := hide (hE5)
            have hown9 := HOWN.out.ex RExt.ok HEf.out hdb (fun k hk => hk.elim)
            have hsz9 := HEf.out.size
            have HOW9 := hide hown9
            clear hown9
            go_wp2_with (at_builtin; refine wpList_app RExt.ok _ rfl (.tmp 40) (.tmp 42) 50 rfl base 49 (.agg #[.string ⟨#[]⟩, .bool false, .string ⟨#[]⟩]) 40 Tryd.underlying50 info_ext rfl (by decide) No _ out rfl (HOW9.out.alloc RExt.ok (no_lt _) _) ⟨_, 0, none⟩ 1 1 [((ByteArray.data I).toList, cr, (ByteArray.data va).toList)] rfl rfl (news_ext _ _ _ cr I va) (no_lt _) (by simp; omega) (by simp [maxLen]; omega) (by simp; omega) ?_; intro v2 w2 hown2 hg2 hb2 hat2; have hsz2 := hb2.size; simp at hsz2)
            go_roundw
            case rel => exact ⟨k + 1, _, by omega, by go_num, by simp; omega, (fun x hx => by
              rcases List.mem_append.1 hx with hx | hx
              · exact HOX.out x hx
              · simp at hx; subst hx; exact ⟨by show (ByteArray.data I).toList.length ≤ 1000; rw [size_string]; omega, by show (ByteArray.data va).toList.length ≤ 1000; rw [size_string]; omega⟩), hown2, (HDf.out.alloc _).keep (hb2.mono hdb), ((HX.out.trans HEf.out).alloc _).then_base9 hb2 hwb, by omega⟩
            case measure => simp [intOf]; omega
          · have t3 : ((q : Int) == 3) = false := beq_false_of_ne (fun e => h3 (Int.ofNat.inj e))
            clear h1 h2 h3
            obtain ⟨s0, s1, s2, -, -, -⟩ := (HXB4.out).facts
            have HDf := hide (HD4.out)
            have HEf := hide (HX4.out)
            have hown9 := HOWN.out.ex RExt.ok HEf.out hdb (fun k hk => hk.elim)
            have hsz9 := HEf.out.size
            have HOW9 := hide hown9
            clear hown9
            go_wp2_with (at_builtin; refine wpList_app RExt.ok _ rfl (.tmp 40) (.tmp 42) 50 rfl base 49 (.agg #[.string ⟨#[]⟩, .bool false, .string ⟨#[]⟩]) 40 Tryd.underlying50 info_ext rfl (by decide) No _ out rfl (HOW9.out.alloc RExt.ok (no_lt _) _) ⟨_, 0, none⟩ 1 1 [((ByteArray.data z).toList, cr, (ByteArray.data va).toList)] rfl rfl (news_ext _ _ _ cr z va) (no_lt _) (by simp; omega) (by simp [maxLen]; omega) (by simp; omega) ?_; intro v2 w2 hown2 hg2 hb2 hat2; have hsz2 := hb2.size; simp at hsz2)
            go_roundw
            case rel => exact ⟨k + 1, _, by omega, by go_num, by simp; omega, (fun x hx => by
              rcases List.mem_append.1 hx with hx | hx
              · exact HOX.out x hx
              · simp at hx; subst hx; exact ⟨by show (ByteArray.data z).toList.length ≤ 1000; rw [size_string]; omega, by show (ByteArray.data va).toList.length ≤ 1000; rw [size_string]; omega⟩), hown2, (HDf.out.alloc _).keep (hb2.mono hdb), ((HX.out.trans HEf.out).alloc _).then_base9 hb2 hwb, by omega⟩
            case measure => simp [intOf]; omega
    · have hsl := (Sl.ok RExt.ok).mono (hown.sl RExt.ok) (S' := Btw w.heap.size wr.heap.size) (fun _ _ => rfl) (fun j hj => by rcases hj with hj | hj; exact hj.elim; exact ⟨by have := hj.1; omega, hj.2⟩)
      obtain ⟨A2, cp2, hv⟩ := hsl.shape
      subst hv
      have HSL := hide hsl
      clear hsl hown hox hd hx
      go_wp2_with fail
      go_ret
      exact ⟨⟨out, A2, cp2, rfl, HOX.out, HSL.out, HD.out, HX.out⟩, fun A9 k9 c9 he => by
        simp only [Ending.returned.injEq] at he
        obtain ⟨_, h2, _⟩ := he
        omega⟩
theorem listX_any (d n : Nat) (hn : n ≤ 1000) (w : World) (h : DeckAt w d) :
    Calls Tryd.prog 29 #[.pointer (some ⟨d, 0, none⟩), .int .i64 (n : Int)] w (MadeX d w) := (listN_any d n hn w h).mono fun _ _ h => h.1
end Go.Proofs.YtiikpdjjhnhiiaaDoor
