/- The reference's May, where the fields lie below a bound. -/
import Derived.Test.YtahamclodagihaaGreatDoorTGTlvJ
import Derived.Test.YtahamclodagihaaGreatDoorTSbA
import Derived.Test.YtahamclodagihaaGreatDoorTGdB
import Derived.Test.YtahamclodagihaaGreatDoorTGGlA
import Derived.Test.YtahamclodagihaaGreatDoorTSbE
namespace Go.Proofs.YtahamclodagihaaGreatDoor
open Go.RowKit
end Go.Proofs.YtahamclodagihaaGreatDoor
namespace Go.Proofs.YtahamclodagihaaGreatDoor
open Go.RowKit
def DecPPost (w : World) (p : Int × List Gen) (e : Ending) (w' : World) : Prop :=
 ∃ (A : Option Addr) (c : Nat), e = .returned (.tuple #[.slice A p.2.length c, .int .i64 p.1]) ∧ Sl RGen 3 w' (Btw w.heap.size w'.heap.size) p.2 [.slice A p.2.length c] ∧ Below w.heap.size w w' ∧ MedGs p.2
theorem DecPPost.err {w : World} {r : Except Int (List Gen)} {q : Int} {e : Ending} {w' : World} (hr : r = .error q) (he : e = .returned (.tuple #[.slice none 0 0, .int .i64 q])) (hb : Below w.heap.size w w') : DecPPost w (toGs r) e w' := by
 subst hr
 exact ⟨none, 0, he, Sl.nil _ _ _ _, hb, fun g hg => by cases hg⟩
theorem DecPPost.ok {w : World} {r : Except Int (List Gen)} {l : List Gen} {A : Option Addr} {c : Nat} {e : Ending} {w' : World} (hr : r = .ok l) (he : e = .returned (.tuple #[.slice A l.length c, .int .i64 0])) (hsl : Sl RGen 3 w' (Btw w.heap.size w'.heap.size) l [.slice A l.length c]) (hb : Below w.heap.size w w') (hm : MedGs l) : DecPPost w (toGs r) e w' := by
 subst hr
 exact ⟨A, c, he, hsl, hb, hm⟩
set_option maxRecDepth 100000 in
set_option maxHeartbeats 8000000 in
theorem decodePart_any (s : ByteArray) (hs : s.size ≤ 100000000) (w : World) (hmx : Mx w) (htb : Tb w) :
    Calls Tryz.prog 85 #[.string s] w (DecPPost w (toGs (decP2 s.data.toList))) := by
  obtain ⟨r, hr⟩ : ∃ r, decP2 s.data.toList = r := ⟨_, rfl⟩
  rw [hr]
  obtain ⟨ol, hol⟩ : ∃ o, listF s.data.toList = o := ⟨_, rfl⟩
  have HRO := hide (show r = decPL ol by rw [← hr, decP2, hol])
  have HOL := hide hol
  have HMX := hide hmx
  have HTB := hide htb
  clear hr hol hmx htb
  go_enter Tryz.func85, Tryz.ntmps85
  go_wp2_with fail
  refine (List_any s (by omega) _).mono ?_
  rintro e wL ⟨hbL, hres⟩
  rw [HOL.out] at hres
  have HBL := hide hbL
  have hzL := hbL.size
  clear hbL
  cases ol with
  | error k =>
    obtain rfl : e = _ := hres
    have hk : k ≠ 0 := fun h => list_err0 _ _ (Nat.le_refl _) (h ▸ HOL.out)
    have ht2 : (k != 0) = true := by simpa using hk
    have HN := hide (show r = .error k from HRO.out)
    clear hk
    go_wp2_with fail
    go_ret2
    exact DecPPost.err HN.out rfl HBL.out
  | ok L =>
    obtain ⟨A, cp, rfl, hsl⟩ := hres
    obtain ⟨-, hlc, hcm⟩ := hsl.len_
    unfold maxLen at hcm
    have HML := hide (fun (k : Nat) (h : k < L.length) => (list_is_wrap _ _ _ (Nat.le_refl _) HOL.out L[k] (List.getElem_mem h)).2.2.1)
    have HSL := hide (show Sl RElt 3 wL (Lt wL.heap.size) L [.slice A L.length cp] from (Sl.ok RElt.ok).mono hsl (fun _ _ => rfl) (fun j hj => hj.2))
    have hLs := list_len _ _ _ (Nat.le_refl _) HOL.out
    rw [size_string] at hLs
    clear hsl
    by_cases h0 : L.length = 0
    · have t0 : ((L.length : Int) == 0) = true := by rw [h0]; rfl
      have HN := hide (show r = .error 7 by rw [HRO.out, decPL, if_pos h0])
      clear h0
      go_wp2_with fail
      go_ret2
      exact DecPPost.err HN.out rfl HBL.out
    · have t0L : ((L.length : Int) == 0) = false := beq_false_of_ne (by omega)
      have HR := hide (show r = mapE decT L by rw [HRO.out, decPL, if_neg h0])
      clear h0
      obtain ⟨base, hbase⟩ : ∃ b, b = wL.heap.size := ⟨_, rfl⟩
      have hgs0 : base ≤ wL.heap.size := by omega
      have hbw : w.heap.size ≤ base := by omega
      have HBASE := hide hbase
      have H0 := hide (show mapE decT L = preE [] (mapE decT (L.drop 0)) by rw [List.drop_zero, preE_nil])
      clear hbase
      go_wp2_with fail
      go_loopw [6, 25] (fun v i wr => ∃ (k : Nat) (l : List Gen) (S : Nat → Prop), k ≤ L.length ∧ l.length = k ∧ i = .int .i64 k ∧ Below wL.heap.size wL wr ∧ base ≤ wr.heap.size ∧ Own RGen 3 62 wr base S v l ∧
        (∀ j, S j → base ≤ j ∧ j < wr.heap.size) ∧ MedGs l ∧ Hid (mapE decT L = preE l (mapE decT (L.drop k)))) (fun _ i _ => L.length - (intOf i).toNat)
      case atStart => exact ⟨0, [], No, by omega, rfl, rfl, Below.refl _ _, hgs0, Own.nil _ _ _ _ _ _, fun j h => h.elim, (fun x hx => by cases hx), H0⟩
      case round =>
        obtain ⟨k, l, S, hk, hlk, rfl, hbr, hgs, hown, hS, hsm, H⟩ := hrel
        have HLK := hide hlk
        have hlk2 : l.length ≤ k := by omega
        obtain ⟨A6, c6, hv6⟩ := (hown.sl RGen.ok).shape
        subst hv6
        have HBR := hide hbr
        have HOWN := hide hown
        have HS := hide hS
        have HSM := hide hsm
        have HB := hide (HBL.out.trans (hbr.mono HBL.out.size))
        clear hlk hown hS hsm
        by_cases hlt : k < L.length
        · obtain ⟨b, off, hA, hbS, e0, e1, e2⟩ := HSL.out.eltAt hlt
          subst hA
          have hcl2 := HML.out k hlt
          have HPS := hide (fun (x : Gen) (h : decT L[k] = .ok x) => H.out.trans (preE_at hlt h))
          have HPN := hide (fun (e : Int) (h : decT L[k] = .error e) => H.out.trans (preE_err hlt h))
          obtain ⟨⟨et, ec, er⟩, hel⟩ : ∃ e, L[k] = e := ⟨_, rfl⟩
          rw [hel] at e0 e1 e2 hcl2 HPS HPN
          simp only at e0 e1 e2 hcl2
          obtain ⟨z1, hz1⟩ : ∃ x : ByteArray, x = ⟨ec.toArray⟩ := ⟨_, rfl⟩
          obtain ⟨z2, hz2⟩ : ∃ x : ByteArray, x = ⟨er.toArray⟩ := ⟨_, rfl⟩
          have hz1d : ec = z1.data.toList := by rw [hz1]
          have hz2d : er = z2.data.toList := by rw [hz2]
          rw [← hz1] at e1
          rw [← hz2] at e2
          rw [hz1d] at hcl2
          rw [size_string] at hcl2
          rw [hz1d, hz2d] at HPS HPN
          obtain ⟨o, ho⟩ : ∃ o, openF (et : Int) 48 z1.data.toList = o := ⟨_, rfl⟩
          have HDT := hide (show decT (et, z1.data.toList, z2.data.toList) = decTG o by rw [← ho]; rfl)
          rw [HDT.out] at HPS HPN
          have HO := hide ho
          have hbM : b < wL.heap.size := hbS
          have p0 := (hbr.cell (p := ⟨b, off + k * 3, none⟩) hbM).trans e0
          have p1 := (hbr.cell (p := ⟨b, off + k * 3 + 1, none⟩) hbM).trans e1
          have p2 := (hbr.cell (p := ⟨b, off + k * 3 + 2, none⟩) hbM).trans e2
          clear e0 e1 e2 hz1 hz2 hel hz1d hz2d ho hbr hbS hbM
          obtain ⟨wo, rfl⟩ : ∃ wo : World, wo = wr := ⟨_, rfl⟩
          go_upto_region 10 with fail
          obtain ⟨wB, hwB⟩ : ∃ W, W = wo.alloc (.cells #[.int .i64 (et : Int), .string z1, .string z2] 72) := ⟨_, rfl⟩
          have q0 : wB.cell? ⟨wo.heap.size, 0, none⟩ = some (.int .i64 (et : Int)) := by rw [hwB, World.cell?_alloc_new]; rfl
          have q1 : wB.cell? ⟨wo.heap.size, 1, none⟩ = some (.string z1) := by rw [hwB, World.cell?_alloc_new]; rfl
          have q2 : wB.cell? ⟨wo.heap.size, 2, none⟩ = some (.string z2) := by rw [hwB, World.cell?_alloc_new]; rfl
          have HBB := hide (show Below wo.heap.size wo wB by rw [hwB]; exact (Below.refl _ _).alloc (Nat.le_refl _) _)
          have hzB : wB.heap.size = wo.heap.size + 1 := by rw [hwB]; simp
          rw [← hwB]
          clear hwB p0 p1 p2
          obtain ⟨gx, hgx⟩ : ∃ g, wo.heap.size = g := ⟨_, rfl⟩
          have HGX := hide hgx
          rw [hgx] at q0 q1 q2 ⊢
          clear hgx
          have HBW := hide (HB.out.trans (HBB.out.mono HB.out.size))
          have HBWr := hide (HBR.out.trans (HBB.out.mono HBR.out.size))
          by_cases h48 : et = 48
          · have t48 : ((et : Int) != 48) = false := by rw [h48]; rfl
            have HOL2 := hide (show listF z1.data.toList = o by rw [← HO.out, openF, if_neg (by rw [h48]; simp)])
            clear h48
            go_wp2_with fail
            refine (List_any z1 (by omega) _).mono ?_
            rintro e w3 ⟨hb3, hres⟩
            rw [HOL2.out] at hres
            have HB3 := hide (HBW.out.trans (hb3.mono HBW.out.size))
            have HB3r := hide (HBWr.out.trans (hb3.mono HBWr.out.size))
            have HB3q := hide (HBB.out.trans (hb3.mono HBB.out.size))
            have hz3 := hb3.size
            clear hb3 q0 q1 q2
            cases o with
            | error k9 =>
              obtain rfl : e = _ := hres
              have hk9 : k9 ≠ 0 := fun h => list_err0 _ _ (Nat.le_refl _) (h ▸ HOL2.out)
              have ht : (k9 != 0) = true := by simpa using hk9
              have HN := hide (show r = .error k9 by rw [HR.out, HPN.out k9 rfl])
              clear hk9
              go_wp2_with fail
              go_ret2
              exact DecPPost.err HN.out rfl HB3.out
            | ok X =>
              obtain ⟨AX, cX, rfl, hslX⟩ := hres
              obtain ⟨-, hXc, hXm⟩ := hslX.len_
              unfold maxLen at hXm
              match X, HDT, HOL2, hslX, HPS, HPN with
              | [], HDT, HOL2, hslX, HPS, HPN =>
                have HN := hide (show r = .error 3 by rw [HR.out, HPN.out 3 rfl])
                clear hslX
                go_wp2_with fail
                go_ret2
                exact DecPPost.err HN.out rfl HB3.out
              | x0 :: xr, HDT, HOL2, hslX, HPS, HPN =>
                obtain ⟨n9, hn9⟩ : ∃ n, (x0 :: xr).length = n := ⟨_, rfl⟩
                have h0n : 0 < n9 := by rw [← hn9]; simp
                have t0 : ((n9 : Int) == 0) = false := by rw [beq_eq_false_iff_ne]; omega
                have h0n' : (0 : Int) < (n9 : Int) := by omega
                obtain ⟨b4, off4, hA4, hbS4, f0, f1, f2⟩ := ((Sl.ok RElt.ok).mono hslX (fun _ _ => rfl) (S' := Lt w3.heap.size) (fun j hj => hj.2)).eltAt (i := 0) (by simp)
                subst hA4
                have hcl4 := (list_is_wrap _ _ _ (Nat.le_refl _) HOL2.out x0 (by simp)).2.2.1
                obtain ⟨xt, xc, xw⟩ := x0
                simp only [List.getElem_cons_zero, Nat.zero_mul, Nat.add_zero] at f0 f1 f2
                simp only at hcl4
                obtain ⟨y1, hy1⟩ : ∃ x : ByteArray, x = ⟨xc.toArray⟩ := ⟨_, rfl⟩
                obtain ⟨y2, hy2⟩ : ∃ x : ByteArray, x = ⟨xw.toArray⟩ := ⟨_, rfl⟩
                have hy1d : xc = y1.data.toList := by rw [hy1]
                have hy2d : xw = y2.data.toList := by rw [hy2]
                rw [← hy1] at f1
                rw [← hy2] at f2
                rw [hy1d] at hcl4
                rw [size_string] at hcl4
                obtain ⟨oD, hoD⟩ : ∃ o, decG (xt : Int) y1.data.toList true = o := ⟨_, rfl⟩
                have HOD := hide hoD
                have HDX := hide (show decTG (.ok ((xt, xc, xw) :: xr)) = decTX xr oD by rw [← hoD, hy1d]; rfl)
                rw [HDX.out] at HPS HPN
                have HN9 := hide hn9
                rw [hn9] at hslX ⊢
                clear hslX hy1 hy2 hy1d hy2d hoD hn9 hbS4
                go_wp2_with fail
                refine (gDecode_any (xt : Int) y1 y2 true (by omega) _ (HMX.out.below HB3.out) (HTB.out.below HB3.out)).mono ?_
                rintro e w5 ⟨t5, A5, c5, rfl, ht5, hsl5, hb5, hmed5⟩
                rw [HOD.out] at ht5 hsl5 hmed5 ⊢
                have hsz5 := hb5.size
                clear f0 f1 f2
                go_upto_region 18 with fail
                cases oD with
                | error k9 =>
                  have hk9 : k9 ≠ 0 := fun h => decG_err0 (h ▸ HOD.out)
                  have ht : (k9 != 0) = true := by simpa using hk9
                  have HN := hide (show r = .error k9 by rw [HR.out, HPN.out k9 rfl])
                  have HB5 := hide (HB3.out.trans (hb5.mono HB3.out.size))
                  rw [show toG (.error k9) = (k9, (0, [], [])) from rfl] at ht5 ⊢
                  have HB6 := hide (HB5.out.alloc HB5.out.size (.cells #[.int .i64 0, .string t5, .slice A5 0 c5] 62))
                  clear hk9 hb5 hsl5 hmed5 ht5
                  go_wp2_with fail
                  go_ret2
                  exact DecPPost.err HN.out rfl HB6.out
                | ok gg =>
                  obtain ⟨kb, tb, nb⟩ := gg
                  rw [show toG (.ok (kb, tb, nb)) = (0, (kb, tb, nb)) from rfl] at ht5 hsl5 hmed5 ⊢
                  simp only at ht5 hsl5 hmed5 ⊢
                  subst ht5
                  obtain ⟨wG, hwG⟩ : ∃ W, W = w5.alloc (.cells #[.int .i64 kb, .string t5, .slice A5 nb.length c5] 62) := ⟨_, rfl⟩
                  obtain ⟨g0, g1, g2⟩ := gen_cells9 hwG
                  have hb5 : Below w3.heap.size w3 wG := by rw [hwG]; exact hb5.alloc hb5.size _
                  have hzG : wG.heap.size = w5.heap.size + 1 := by rw [hwG]; simp
                  have hsl5 : Sl RRdn 1 wG (Btw w3.heap.size wG.heap.size) nb [.slice A5 nb.length c5] := (Sl.ok RRdn.ok).mono hsl5 (fun j hj => by rw [hwG]; exact Below.heap_alloc _ _ j hj.2) (fun j hj => ⟨hj.1, by have := hj.2; omega⟩)
                  rw [← hwG]
                  clear hwG
                  have HMED := hide hmed5
                  have HB5 := hide (HB3.out.trans (hb5.mono HB3.out.size))
                  have HB5r := hide (HB3r.out.trans (hb5.mono HB3r.out.size))
                  by_cases hxr : xr = []
                  · have h1n : ¬ (1 : Int) < (n9 : Int) := by rw [← HN9.out, hxr]; simp
                    have HY := hide (show mapE decT L = preE (l ++ [(kb, t5.data.toList, nb)]) (mapE decT (L.drop (k + 1))) from HPS.out _ (by rw [decTX, if_neg (by simpa using hxr)]))
                    obtain ⟨S', hc1, hc2, hc3⟩ := gen_step (k := kb) (t := t5) HOWN.out HS.out hgs HB3q.out hb5 hsl5
                    have hbG9 : base ≤ wG.heap.size := by omega
                    clear hsl5 hb5 hmed5 hzG hxr
                    go_wp2_with (at_builtin; refine wpList_app RGen.ok _ rfl (.tmp 57) (.tmp 59) 50 rfl base 62 (.agg #[.int .i64 0, .string ⟨#[]⟩, .slice none 0 0]) 48 Tryz.underlying50 info_gen rfl (by decide) S' _ l rfl hc1 ⟨_, 0, none⟩ 1 1 [(kb, t5.data.toList, nb)] rfl rfl hc2 (fun b hb => (hc3 b hb).2) (by simp; omega) (by simp [maxLen]; omega) (by simp; omega) ?_; intro v6 w6 hown6 hgr6 hb6 hat6; have hsz6 := hb6.size; simp at hsz6)
                    have hsz7 : wG.heap.size + 1 ≤ w6.heap.size := by simpa using hsz6
                    go_roundw
                    case rel => exact ⟨k + 1, l ++ [(kb, t5.data.toList, nb)], S', by omega, by simp [HLK.out], by go_num, (HB5r.out.alloc HB5r.out.size _).trans (HBASE.out ▸ hb6), by omega, hown6, fun j hj => ⟨(hc3 j hj).1, by have := (hc3 j hj).2; simp at this; omega⟩, (fun x hx => by
                      rcases List.mem_append.1 hx with hx | hx
                      · exact HSM.out x hx
                      · simp at hx; subst hx; exact HMED.out), HY⟩
                    case measure => simp [intOf]; omega
                  · have h1n : (1 : Int) < (n9 : Int) := by
                      have : xr.length ≠ 0 := fun h => hxr (List.eq_nil_of_length_eq_zero h)
                      rw [← HN9.out, List.length_cons]; omega
                    have HN := hide (show r = .error 4 by rw [HR.out, HPN.out 4 (by rw [decTX, if_pos hxr])])
                    clear hsl5 hb5 hmed5 hxr hzG
                    go_wp2_with fail
                    go_ret2
                    exact DecPPost.err HN.out rfl HB5.out
          · have t48 : ((et : Int) != 48) = true := by simp only [bne_iff_ne, ne_eq]; omega
            have ho5 : o = .error 5 := by rw [← HO.out, openF, if_pos (by omega)]
            have HN := hide (show r = .error 5 by rw [HR.out, HPN.out 5 (by rw [ho5]; rfl)])
            clear h48 ho5
            go_wp2_with fail
            go_ret2
            exact DecPPost.err HN.out rfl HBW.out
        · have HP := hide (show r = .ok l by rw [HR.out, H.out, List.drop_of_length_le (by omega)]; simp [preE, mapE])
          have hsl := (Sl.ok RGen.ok).mono (HOWN.out.sl RGen.ok) (fun _ _ => rfl) (S' := Btw w.heap.size wr.heap.size) (fun j hj => by rcases hj with hj | hj; exact ⟨by have := (HS.out j hj).1; omega, (HS.out j hj).2⟩; exact ⟨by have := hj.1; omega, hj.2⟩)
          have HSLv := hide hsl
          clear hsl hbr
          go_wp2_with fail
          go_ret2
          exact DecPPost.ok HP.out rfl HSLv.out HB.out HSM.out
end Go.Proofs.YtahamclodagihaaGreatDoor
namespace Go.Proofs.YtahamclodagihaaGreatDoor
open Go.RowKit
def toS : Except Int Sub → Int × Sub
 | .error k => (k, ([], []))
 | .ok s => (0, s)
def DecSPost (w : World) (p : Int × Sub) (e : Ending) (w' : World) : Prop :=
 ∃ (A B : Option Addr) (c d : Nat), e = .returned (.tuple #[.agg #[.slice A p.2.1.length c, .slice B p.2.2.length d], .int .i64 p.1]) ∧ Sl RGen 3 w' (Lt w'.heap.size) p.2.1 [.slice A p.2.1.length c] ∧ Sl RGen 3 w' (Lt w'.heap.size) p.2.2 [.slice B p.2.2.length d] ∧ Below w.heap.size w w'
theorem DecSPost.err {w : World} {r : Except Int Sub} {q : Int} {e : Ending} {w' : World} (hr : r = .error q) (he : e = .returned (.tuple #[.agg #[.slice none 0 0, .slice none 0 0], .int .i64 q])) (hb : Below w.heap.size w w') : DecSPost w (toS r) e w' := by
 subst hr
 exact ⟨none, none, 0, 0, he, Sl.nil _ _ _ _, Sl.nil _ _ _ _, hb⟩
theorem DecSPost.ok {w : World} {r : Except Int Sub} {p x : List Gen} {A B : Option Addr} {c d : Nat} {e : Ending} {w' : World} (hr : r = .ok (p, x)) (he : e = .returned (.tuple #[.agg #[.slice A p.length c, .slice B x.length d], .int .i64 0]))
  (h1 : Sl RGen 3 w' (Lt w'.heap.size) p [.slice A p.length c]) (h2 : Sl RGen 3 w' (Lt w'.heap.size) x [.slice B x.length d]) (hb : Below w.heap.size w w') : DecSPost w (toS r) e w' := by
 subst hr
 exact ⟨A, B, c, d, he, h1, h2, hb⟩
structure BAt (w : World) (g2 g4 : Nat) (W : World) : Prop where
 base : Below w.heap.size w W
 lo : w.heap.size ≤ g2
 o1 : g2 < g4
 n2 : SB g2 (.slice none 0 0) (.slice none 0 0) W
 n4 : SB g4 (.slice none 0 0) (.slice none 0 0) W
theorem BAt.grow {w W W' : World} {g2 g4 : Nat} (h : BAt w g2 g4 W) (hb : Below W.heap.size W W') : BAt w g2 g4 W' := ⟨h.base.trans (hb.mono h.base.size), h.lo, h.o1, h.n2.below hb, h.n4.below hb⟩
theorem BAt.set {w W : World} {g2 g4 g j : Nat} (h : BAt w g2 g4 W) (hg : g4 < g) (u : Value) : BAt w g2 g4 (W.setCell ⟨g, j, none⟩ u) :=
 ⟨h.base.setCell (p := ⟨g, j, none⟩) (by show w.heap.size ≤ g; have := h.lo; have := h.o1; omega) _, h.lo, h.o1, h.n2.other (by have := h.o1; omega) _, h.n4.other (by omega) _⟩
theorem sl_set {w : World} {S : Nat → Prop} {g j : Nat} {l : List Gen} {v : Value} (h : Sl RGen 3 w S l [v]) (hS : ∀ k, S k → k ≠ g) (u : Value) : Sl RGen 3 (w.setCell ⟨g, j, none⟩ u) S l [v] :=
 (Sl.ok RGen.ok).mono h (fun k hk => Below.heap_setCell w ⟨g, j, none⟩ u k (hS k hk)) (fun _ hk => hk)
end Go.Proofs.YtahamclodagihaaGreatDoor
namespace Go.Proofs.YtahamclodagihaaGreatDoor
open Go.RowKit
theorem MedGs.app9 {p x : List Gen} (h1 : MedGs p) (h2 : MedGs x) : MedGs (p ++ x) := fun g hg => by
 rcases List.mem_append.1 hg with h | h
 ·exact h1 g h
 ·exact h2 g h
theorem Sl.nilAny {α : Type} (R : Rep α) (size : Nat) (w : World) (S : Nat → Prop) (A : Option Addr) (c : Nat) (hc : c ≤ maxLen) : Sl R size w S [] [.slice A 0 c] := ⟨A, c, rfl, Nat.zero_le _, hc, fun h => absurd h (by simp)⟩
theorem Sl.tail9 {w : World} {S : Nat → Prop} {x : Elt} {r : List Elt} {b off n c : Nat} (h : Sl RElt 3 w S (x :: r) [.slice (some ⟨b, off, none⟩) n c]) : Sl RElt 3 w S r [.slice (some ⟨b, off + 3, none⟩) r.length (c - 1)] := by
 obtain ⟨A', c', e, h1, h2, h3⟩ := h
 simp only [List.cons.injEq, Value.slice.injEq, and_true] at e
 obtain ⟨rfl, rfl, rfl⟩ := e
 simp only [List.length_cons] at h1
 refine ⟨_, _, rfl, by omega, by omega, fun _ => ?_⟩
 obtain ⟨b', off', hA, hb, hh⟩ := h3 (by simp)
 simp only [Option.some.injEq, Addr.mk.injEq, and_true] at hA
 obtain ⟨rfl, rfl⟩ := hA
 refine ⟨_, _, rfl, hb, fun i y hy => ?_⟩
 obtain ⟨xs, k1, k2⟩ := hh (i + 1) y (by simpa using hy)
 exact ⟨xs, k1, fun j u hu => by rw [← k2 j u hu]; congr 2; omega⟩
structure PrAt (w : World) (g2 g4 gS gP : Nat) (P X : List Gen) (A B : Option Addr) (c d : Nat) (W : World) : Prop where
 b : BAt w g2 g4 W
 o3 : g4 < gS
 o4 : gS < gP
 s : SB gS (.slice A P.length c) (.slice B X.length d) W
 p : ∃ T, W.heap[gP]? = some (.cells #[.pointer (some ⟨gS, 0, none⟩), .pointer (some ⟨gS, 1, none⟩)] T (0, 0))
 kp : Sl RGen 3 W (Btw (gS + 1) W.heap.size) P [.slice A P.length c]
 kx : Sl RGen 3 W (Btw (gS + 1) W.heap.size) X [.slice B X.length d]
 med : MedGs (P ++ X)
theorem PrAt.plt {w W : World} {g2 g4 gS gP : Nat} {P X : List Gen} {A B : Option Addr} {c d : Nat} (h : PrAt w g2 g4 gS gP P X A B c d W) : gP < W.heap.size := by
 obtain ⟨T, hp⟩ := h.p
 exact (Array.getElem?_eq_some_iff.1 hp).1
theorem PrAt.ptr {w W : World} {g2 g4 gS gP : Nat} {P X : List Gen} {A B : Option Addr} {c d : Nat} (h : PrAt w g2 g4 gS gP P X A B c d W) : W.cell? ⟨gP, 0, none⟩ = some (.pointer (some ⟨gS, 0, none⟩)) ∧ W.cell? ⟨gP, 1, none⟩ = some (.pointer (some ⟨gS, 1, none⟩)) := by
 obtain ⟨T, hp⟩ := h.p
 simp [World.cell?, hp]
theorem PrAt.grow {w W W' : World} {g2 g4 gS gP : Nat} {P X : List Gen} {A B : Option Addr} {c d : Nat} (h : PrAt w g2 g4 gS gP P X A B c d W) (hb : Below W.heap.size W W') : PrAt w g2 g4 gS gP P X A B c d W' := by
 have hlt := h.plt
 obtain ⟨T, hp⟩ := h.p
 exact ⟨h.b.grow hb, h.o3, h.o4, h.s.below hb, ⟨T, (hb.block gP hlt).trans hp⟩, (Sl.ok RGen.ok).mono h.kp (fun k hk => hb.block k hk.2) (fun _ hk => ⟨hk.1, Nat.lt_of_lt_of_le hk.2 hb.size⟩), (Sl.ok RGen.ok).mono h.kx (fun k hk => hb.block k hk.2) (fun _ hk => ⟨hk.1, Nat.lt_of_lt_of_le hk.2 hb.size⟩), h.med⟩
theorem PrAt.setP {w W : World} {g2 g4 gS gP : Nat} {P P' X : List Gen} {A A' B : Option Addr} {c c' d : Nat} (h : PrAt w g2 g4 gS gP P X A B c d W) (hk : Sl RGen 3 W (Btw (gS + 1) W.heap.size) P' [.slice A' P'.length c']) (hm : MedGs (P' ++ X)) :
  PrAt w g2 g4 gS gP P' X A' B c' d (W.setCell ⟨gS, 0, none⟩ (.slice A' P'.length c')) := by
 have o3 := h.o3
 have o4 := h.o4
 obtain ⟨T, hp⟩ := h.p
 have hne : ∀ k, Btw (gS + 1) W.heap.size k → k ≠ gS := fun k hk => by have := hk.1; omega
 exact ⟨h.b.set (by omega) _, o3, o4, h.s.store0 _, ⟨T, (Below.heap_setCell W ⟨gS, 0, none⟩ _ gP (by show gP ≠ gS; omega)).trans hp⟩, by rw [World.size_setCell]; exact sl_set hk hne _, by rw [World.size_setCell]; exact sl_set h.kx hne _, hm⟩
theorem PrAt.setX {w W : World} {g2 g4 gS gP : Nat} {P X X' : List Gen} {A B B' : Option Addr} {c d d' : Nat} (h : PrAt w g2 g4 gS gP P X A B c d W) (hk : Sl RGen 3 W (Btw (gS + 1) W.heap.size) X' [.slice B' X'.length d']) (hm : MedGs (P ++ X')) :
  PrAt w g2 g4 gS gP P X' A B' c d' (W.setCell ⟨gS, 1, none⟩ (.slice B' X'.length d')) := by
 have o3 := h.o3
 have o4 := h.o4
 obtain ⟨T, hp⟩ := h.p
 have hne : ∀ k, Btw (gS + 1) W.heap.size k → k ≠ gS := fun k hk => by have := hk.1; omega
 exact ⟨h.b.set (by omega) _, o3, o4, h.s.store1 _, ⟨T, (Below.heap_setCell W ⟨gS, 1, none⟩ _ gP (by show gP ≠ gS; omega)).trans hp⟩, by rw [World.size_setCell]; exact sl_set h.kp hne _, by rw [World.size_setCell]; exact sl_set hk hne _, hm⟩
def RelD (r : Except Int Sub) (j : Nat) (P X : List Gen) (rest : List Elt) : Prop :=
 match j with
 | 0 => r = decSP (partD 160 rest) ∧ P = [] ∧ X = []
 | 1 => r = decSX P (partD 161 rest) ∧ X = []
 | _ => r = decSX P (.ok (X, rest))
set_option maxRecDepth 100000 in
set_option maxHeartbeats 16000000 in
theorem gDecodeS_any (s : ByteArray) (hs : s.size ≤ 100000000) (w : World) (hmx : Mx w) (htb : Tb w) :
    Calls Tryz.prog 31 #[.string s] w (DecSPost w (toS (decS s.data.toList))) := by
  obtain ⟨r, hr⟩ : ∃ r, decS s.data.toList = r := ⟨_, rfl⟩
  rw [hr]
  obtain ⟨oe, hoe⟩ : ∃ o, oneF s.data.toList = o := ⟨_, rfl⟩
  have HRO := hide (show r = decSO oe by rw [← hr, decS, hoe])
  have HOE := hide hoe
  have HMX := hide hmx
  have HTB := hide htb
  obtain ⟨W0, hW0⟩ : ∃ W, W = ((w.alloc (.cells #[.slice none 0 0, .slice none 0 0] 52)).alloc (.cells #[.slice none 0 0, .slice none 0 0] 52)).alloc (.cells #[.slice none 0 0, .slice none 0 0] 52) := ⟨_, rfl⟩
  obtain ⟨g2, hg2⟩ : ∃ g, g = w.heap.size := ⟨_, rfl⟩
  obtain ⟨g4, hg4⟩ : ∃ g, g = w.heap.size + 1 := ⟨_, rfl⟩
  obtain ⟨gS, hgS⟩ : ∃ g, g = w.heap.size + 1 + 1 := ⟨_, rfl⟩
  have HBA0 := hide (show BAt w g2 g4 W0 from by
    refine ⟨by rw [hW0]; exact (((Below.refl _ _).alloc (Nat.le_refl _) _).alloc (by simp) _).alloc (by simp; omega) _, by omega, by omega, ?_, ?_⟩
    · rw [hg2, hW0]; unfold SB
      rw [Below.heap_alloc _ _ _ (by simp; omega), Below.heap_alloc _ _ _ (by simp)]
      exact heap_alloc_new w _
    · rw [hg4, hW0]; unfold SB
      rw [Below.heap_alloc _ _ _ (by simp), show w.heap.size + 1 = (w.alloc (.cells #[.slice none 0 0, .slice none 0 0] 52)).heap.size by simp]
      exact heap_alloc_new _ _)
  have HS0 := hide (show SB gS (.slice none 0 0) (.slice none 0 0) W0 from by
    rw [hgS, hW0]; unfold SB
    rw [show w.heap.size + 1 + 1 = ((w.alloc (.cells #[.slice none 0 0, .slice none 0 0] 52)).alloc (.cells #[.slice none 0 0, .slice none 0 0] 52)).heap.size by simp]
    exact heap_alloc_new _ _)
  have h4S : g4 < gS := by omega
  have HG2 := hide hg2
  have HG4 := hide hg4
  have HGS := hide hgS
  clear hr hoe hmx htb hg2 hg4 hgS
  go_enter Tryz.func31, Tryz.ntmps31
  go_upto_region 2 with fail
  rw [← hW0]
  try rw [← HGS.out]
  try rw [← HG4.out]
  try rw [← HG2.out]
  clear hW0
  go_wp2_with fail
  refine (One_any s (by omega) _).mono ?_
  rintro e w1 ⟨rfl, hb1⟩
  rw [HOE.out]
  have HBA1 := hide (HBA0.out.grow hb1)
  have HS1 := hide (HS0.out.below hb1)
  clear hb1
  cases oe with
  | error k =>
    have hk : k ≠ 0 := fun h => one_err0 _ (h ▸ HOE.out)
    have ht2 : (k != 0) = true := by simpa using hk
    have HN := hide (show r = .error k from HRO.out)
    rw [show oneR (.error k) = .tuple #[.agg #[.int .i64 0, .string ⟨#[]⟩, .string ⟨#[]⟩], .int .i64 k] from rfl]
    have hsB := HBA1.out.grow ((Below.refl w1.heap.size w1).alloc (Nat.le_refl _) (.cells #[.int .i64 0, .string ⟨#[]⟩, .string ⟨#[]⟩] 72))
    go_upto_region 3 with fail
    obtain ⟨wB, hwB⟩ : ∃ W, W = w1.alloc (.cells #[.int .i64 0, .string ⟨#[]⟩, .string ⟨#[]⟩] 72) := ⟨_, rfl⟩
    rw [← hwB] at hsB ⊢
    clear hk hwB
    obtain ⟨n0, n1, -, -⟩ := (hsB).n4.facts
    obtain ⟨m0, m1, k0, k1⟩ := (hsB).n2.facts
    go_wp2_with fail
    have hst := (hsB).n2.store (.slice none 0 0) (.slice none 0 0)
    have hbz := ((hsB).base.setCell (p := ⟨g2, 0, none⟩) (hsB).lo (.slice none 0 0)).setCell (p := ⟨g2, 1, none⟩) (hsB).lo (.slice none 0 0)
    obtain ⟨W3, hW3⟩ : ∃ W3, W3 = (wB.setCell ⟨g2, 0, none⟩ (.slice none 0 0)).setCell ⟨g2, 1, none⟩ (.slice none 0 0) := ⟨_, rfl⟩
    rw [← hW3] at hst hbz ⊢
    obtain ⟨q8, q9, -, -⟩ := hst.facts
    exact bodyPost_ret (v := .tuple #[.agg #[.slice none 0 0, .slice none 0 0], .int .i64 k]) (by simp [results, Tryz.results31, go_sem, q8, q9]) rfl (DecSPost.err HN.out rfl hbz)
  | ok ee =>
    obtain ⟨t, c, raw⟩ := ee
    have hcl := (one_is_wrap HOE.out).2.2.1
    simp only at hcl
    obtain ⟨x1, hx1⟩ : ∃ x : ByteArray, x = ⟨c.toArray⟩ := ⟨_, rfl⟩
    obtain ⟨x2, hx2⟩ : ∃ x : ByteArray, x = ⟨raw.toArray⟩ := ⟨_, rfl⟩
    have hx1d : c = x1.data.toList := by rw [hx1]
    rw [show oneR (.ok (t, c, raw)) = .tuple #[.agg #[.int .i64 (t : Int), .string x1, .string x2], .int .i64 0] by rw [oneR, eltV, hx1, hx2]]
    obtain ⟨ol, hol⟩ : ∃ o, openF (t : Int) 48 x1.data.toList = o := ⟨_, rfl⟩
    have HR0 := hide (show r = decSG ol by rw [HRO.out, ← hol, ← hx1d]; rfl)
    have HOL := hide hol
    rw [hx1d, size_string] at hcl
    obtain ⟨wA, hwA⟩ : ∃ W, W = w1.alloc (.cells #[.int .i64 (t : Int), .string x1, .string x2] 72) := ⟨_, rfl⟩
    have n0 : wA.cell? ⟨w1.heap.size, 0, none⟩ = some (.int .i64 (t : Int)) := by rw [hwA, World.cell?_alloc_new]; rfl
    have n1 : wA.cell? ⟨w1.heap.size, 1, none⟩ = some (.string x1) := by rw [hwA, World.cell?_alloc_new]; rfl
    have hbA : Below w1.heap.size w1 wA := by rw [hwA]; exact (Below.refl _ _).alloc (Nat.le_refl _) _
    have HBAA := hide (HBA1.out.grow hbA)
    have HSA := hide (HS1.out.below hbA)
    clear hx1 hx2 hx1d hol hbA
    go_upto_region 3 with fail
    rw [← hwA]
    clear hwA
    by_cases h48 : t = 48
    · have t48 : ((t : Int) != 48) = false := by rw [h48]; rfl
      have HLL := hide (show listF x1.data.toList = ol by rw [← HOL.out, openF, if_neg (by rw [h48]; simp)])
      clear h48
      go_wp2_with fail
      refine (List_any x1 (by omega) _).mono ?_
      rintro e wL ⟨hbL, hres⟩
      rw [HLL.out] at hres
      have HBAL := hide (HBAA.out.grow hbL)
      have HSL := hide (HSA.out.below hbL)
      have hSA := HSA.out.lt
      have hzL := hbL.size
      clear hbL n0 n1
      cases ol with
      | error k =>
        obtain rfl : e = _ := hres
        have hk : k ≠ 0 := fun h => list_err0 _ _ (Nat.le_refl _) (h ▸ HLL.out)
        have ht2 : (k != 0) = true := by simpa using hk
        have HN := hide (show r = .error k from HR0.out)
        have HB9 := hide (show BAt w g2 g4 wL from HBAL.out)
        clear hk
        obtain ⟨n0, n1, -, -⟩ := (HB9.out).n4.facts
        obtain ⟨m0, m1, k0, k1⟩ := (HB9.out).n2.facts
        go_wp2_with fail
        have hst := (HB9.out).n2.store (.slice none 0 0) (.slice none 0 0)
        have hbz := ((HB9.out).base.setCell (p := ⟨g2, 0, none⟩) (HB9.out).lo (.slice none 0 0)).setCell (p := ⟨g2, 1, none⟩) (HB9.out).lo (.slice none 0 0)
        obtain ⟨W3, hW3⟩ : ∃ W3, W3 = (wL.setCell ⟨g2, 0, none⟩ (.slice none 0 0)).setCell ⟨g2, 1, none⟩ (.slice none 0 0) := ⟨_, rfl⟩
        rw [← hW3] at hst hbz ⊢
        obtain ⟨q8, q9, -, -⟩ := hst.facts
        exact bodyPost_ret (v := .tuple #[.agg #[.slice none 0 0, .slice none 0 0], .int .i64 k]) (by simp [results, Tryz.results31, go_sem, q8, q9]) rfl (DecSPost.err HN.out rfl hbz)
      | ok L =>
        obtain ⟨A, cp, rfl, hsl⟩ := hres
        have HMB := hide (fun (e : Elt) (he : e ∈ L) => (list_is_wrap _ _ _ (Nat.le_refl _) HLL.out e he).2.2.1)
        obtain ⟨wP, hwP⟩ : ∃ W, W = wL.alloc (.cells #[.pointer (some ⟨gS, 0, none⟩), .pointer (some ⟨gS, 1, none⟩)] 117) := ⟨_, rfl⟩
        have hbP : Below wL.heap.size wL wP := by rw [hwP]; exact (Below.refl _ _).alloc (Nat.le_refl _) _
        obtain ⟨gP, hgP⟩ : ∃ g, g = wL.heap.size := ⟨_, rfl⟩
        obtain ⟨E0, hE0⟩ : ∃ l : List Gen, l = [] := ⟨_, rfl⟩
        have HE0 := hide hE0
        have hPr : PrAt w g2 g4 gS gP E0 E0 none none 0 0 wP := by
          rw [hE0]
          exact ⟨HBAL.out.grow hbP, h4S, by omega, HSL.out.below hbP, ⟨_, by rw [hwP, hgP]; exact heap_alloc_new _ _⟩, Sl.nil _ _ _ _, Sl.nil _ _ _ _, fun g hg => by cases hg⟩
        have HPR := hide hPr
        have HSR0 := hide (show Sl RElt 3 wP (Btw (gS + 1) wP.heap.size) L [.slice A L.length cp] from (Sl.ok RElt.ok).mono hsl (fun k hk => hbP.block k hk.2) (fun k hk => ⟨by have := hk.1; omega, Nat.lt_of_lt_of_le hk.2 hbP.size⟩))
        have HWP := hide hwP
        have HGP := hide hgP
        have H0 := hide (show RelD r 0 E0 E0 L from ⟨HR0.out, hE0, hE0⟩)
        clear hE0 hPr hsl hwP hgP hbP
        go_upto_region 11 with fail
        rw [← HWP.out]
        try rw [← HGP.out]
        go_wp2_with fail
        go_loopw [8, 39] (fun v i wr => ∃ (j : Nat) (P X : List Gen) (A B : Option Addr) (c d : Nat) (rest : List Elt) (A8 : Option Addr) (c8 : Nat), j ≤ 2 ∧ i = .int .i64 j ∧ v = .slice A8 rest.length c8 ∧ Sl RElt 3 wr (Btw (gS + 1) wr.heap.size) rest [.slice A8 rest.length c8] ∧ PrAt w g2 g4 gS gP P X A B c d wr ∧ (∀ x ∈ rest, x ∈ L) ∧ Hid (RelD r j P X rest)) (fun _ i _ => 2 - (intOf i).toNat)
        case atStart => exact ⟨0, E0, E0, none, none, 0, 0, L, A, cp, by omega, rfl, rfl, HSR0.out, HPR.out, fun _ h => h, H0⟩
        case round =>
          obtain ⟨j, P, X, A, B, c, d, rest, A8, c8, hj, rfl, rfl, hsr, hp, hbr', HREL⟩ := hrel
          obtain ⟨wi, rfl⟩ : ∃ wi : World, wi = wr := ⟨_, rfl⟩
          have HSR := hide hsr
          have HP := hide hp
          have HMR := hide hbr'
          obtain ⟨-, hrc, hrm⟩ := hsr.len_
          unfold maxLen at hrm
          clear hsr hp
          match j, hj, HREL with
          | 0, _, HREL =>
            rw [show ((0 : Nat) : Int) = 0 from rfl]
            obtain ⟨p0, p1⟩ := HP.out.ptr
            by_cases h0 : rest = []
            · have t0 : ((rest.length : Int) == 0) = true := by rw [h0]; rfl
              have HNX := hide (show RelD r 1 P X rest from ⟨by have h := HREL.out.1; rw [h0] at h ⊢; rw [HREL.out.2.1]; exact h, HREL.out.2.2⟩)
              clear h0
              go_wp2_with fail
              go_roundw
              case rel => exact ⟨1, P, X, A, B, c, d, rest, A8, c8, by omega, by go_num, rfl, HSR.out, HP.out, HMR.out, HNX⟩
              case measure => simp [intOf]
            · obtain ⟨x, q, hxq⟩ : ∃ x q, rest = x :: q := by
                match rest, h0 with
                | x :: q, _ => exact ⟨x, q, rfl⟩
              have hl0 : 0 < rest.length := by rw [hxq]; simp
              have t0 : ((rest.length : Int) == 0) = false := by rw [beq_eq_false_iff_ne]; omega
              have hl0' : (0 : Int) < (rest.length : Int) := by omega
              obtain ⟨b, off, hA, hbS, f0, f1, -⟩ := HSR.out.eltAt (i := 0) hl0
              subst hA
              have hx0 : rest[0] = x := by simp [hxq]
              rw [hx0] at f0 f1
              have hxm := HMB.out x (HMR.out x (by rw [hxq]; simp))
              have hqm : ∀ y ∈ q, y ∈ L := fun y hy => HMR.out y (by rw [hxq]; simp [hy])
              obtain ⟨xt, xc, xw⟩ := x
              simp only [Nat.zero_mul, Nat.add_zero] at f0 f1
              simp only at hxm
              obtain ⟨y1, hy1⟩ : ∃ y : ByteArray, y = ⟨xc.toArray⟩ := ⟨_, rfl⟩
              have hy1d : xc = y1.data.toList := by rw [hy1]
              rw [← hy1] at f1
              rw [hy1d, size_string] at hxm
              by_cases hxt : xt = 160
              · have t1 : ((xt : Int) != 160) = false := by rw [hxt]; rfl
                obtain ⟨o5, ho5⟩ : ∃ o, decP2 y1.data.toList = o := ⟨_, rfl⟩
                have HO5 := hide ho5
                have HPD := hide (show partD 160 rest = partR q o5 by rw [hxq, partD, if_pos hxt, ← ho5, hy1d])
                have HXQ := hide hxq
                have HQM := hide hqm
                have hql : rest.length = q.length + 1 := by rw [hxq]; simp
                have HQL := hide hql
                have HSQ := hide (show Sl RElt 3 wi (Btw (gS + 1) wi.heap.size) q [.slice (some ⟨b, off + 3, none⟩) q.length (c8 - 1)] from (hxq ▸ HSR.out).tail9)
                clear h0 hx0 hxq hqm hql hy1 hy1d hxt ho5
                go_wp2_with fail
                refine (decodePart_any y1 (by omega) _ (HMX.out.below HP.out.b.base) (HTB.out.below HP.out.b.base)).mono ?_
                rintro e w6 ⟨A6, c6, rfl, hsl6, hb6, hmed6⟩
                rw [HO5.out] at hsl6 hmed6 ⊢
                have hD6 := HP.out.grow hb6
                have hSQ6 : Sl RElt 3 w6 (Btw (gS + 1) w6.heap.size) q [.slice (some ⟨b, off + 3, none⟩) q.length (c8 - 1)] := (Sl.ok RElt.ok).mono HSQ.out (fun k hk => hb6.block k hk.2) (fun k hk => ⟨hk.1, Nat.lt_of_lt_of_le hk.2 hb6.size⟩)
                have hgy := HP.out.s.lt
                clear f0 f1 p0 p1 hb6
                obtain ⟨s0, s1, k0, k1⟩ := hD6.s.facts
                have hgS4 : g4 < gS := h4S
                cases o5 with
                | error k9 =>
                  have hk9 : k9 ≠ 0 := fun h => decP2_err0 _ (h ▸ HO5.out)
                  have ht : (k9 != 0) = true := by simpa using hk9
                  have HN := hide (show r = .error k9 from (by rw [HREL.out.1, HPD.out]; rfl))
                  have HB6 := hide (hD6.b.set (j := 0) hgS4 (.slice A6 0 c6))
                  rw [show toGs (.error k9) = (k9, []) from rfl]
                  clear hk9 hsl6 hmed6 hD6 hSQ6
                  go_upto_region 16 with fail
                  obtain ⟨w7, hw7⟩ : ∃ W, W = w6.setCell ⟨gS, 0, none⟩ (.slice A6 0 c6) := ⟨_, rfl⟩
                  rw [← hw7] at HB6
                  try rw [← hw7]
                  clear hw7 s0 s1 k0 k1
                  obtain ⟨n0, n1, -, -⟩ := (HB6.out).n4.facts
                  obtain ⟨m0, m1, k0, k1⟩ := (HB6.out).n2.facts
                  go_wp2_with fail
                  have hst := (HB6.out).n2.store (.slice none 0 0) (.slice none 0 0)
                  have hbz := ((HB6.out).base.setCell (p := ⟨g2, 0, none⟩) (HB6.out).lo (.slice none 0 0)).setCell (p := ⟨g2, 1, none⟩) (HB6.out).lo (.slice none 0 0)
                  obtain ⟨W3, hW3⟩ : ∃ W3, W3 = (w7.setCell ⟨g2, 0, none⟩ (.slice none 0 0)).setCell ⟨g2, 1, none⟩ (.slice none 0 0) := ⟨_, rfl⟩
                  rw [← hW3] at hst hbz ⊢
                  obtain ⟨q8, q9, -, -⟩ := hst.facts
                  exact bodyPost_ret (v := .tuple #[.agg #[.slice none 0 0, .slice none 0 0], .int .i64 k9]) (by simp [results, Tryz.results31, go_sem, q8, q9]) rfl (DecSPost.err HN.out rfl hbz)
                | ok l6 =>
                  rw [show toGs (.ok l6) = (0, l6) from rfl] at hsl6 hmed6 ⊢
                  simp only at hsl6 hmed6 ⊢
                  have hD7 := hD6.setP (A' := A6) (c' := c6) ((Sl.ok RGen.ok).mono hsl6 (fun _ _ => rfl) (fun k hk => ⟨by have := hk.1; omega, hk.2⟩)) (MedGs.app9 hmed6 (fun g hg => hD6.med g (by simp [hg])))
                  have hSQ7 : Sl RElt 3 (w6.setCell ⟨gS, 0, none⟩ (.slice A6 l6.length c6)) (Btw (gS + 1) w6.heap.size) q [.slice (some ⟨b, off + 3, none⟩) q.length (c8 - 1)] := (Sl.ok RElt.ok).mono hSQ6 (fun k hk => Below.heap_setCell w6 ⟨gS, 0, none⟩ _ k (by show k ≠ gS; have := hk.1; omega)) (fun _ hk => hk)
                  have HD7 := hide hD7
                  have HSQ7 := hide hSQ7
                  have HNX := hide (show RelD r 1 l6 X q from ⟨by rw [HREL.out.1, HPD.out]; rfl, HREL.out.2.2⟩)
                  clear hsl6 hmed6 hD6 hSQ6 hD7 hSQ7
                  have hq8 : rest.length - 1 = q.length := by have := HQL.out; omega
                  have HQ8 := hide hq8
                  clear hq8
                  by_cases hc1 : c8 = 1
                  · have HQ0 := hide (show q = [] from List.eq_nil_of_length_eq_zero (by have := HQL.out; omega))
                    go_wp2_with fail
                    go_roundw
                    case rel => exact ⟨1, _, _, _, _, _, _, q, _, 0, by omega, by go_num, by rw [HQ8.out], by rw [HQ0.out]; exact Sl.nilAny _ _ _ _ _ _ (by simp [maxLen]), HD7.out, HQM.out, HNX⟩
                    case measure => simp [intOf]
                  · go_wp2_with fail
                    go_roundw
                    case rel => exact ⟨1, _, _, _, _, _, _, q, _, c8 - 1, by omega, by go_num, by rw [HQ8.out], by rw [World.size_setCell]; exact HSQ7.out, HD7.out, HQM.out, HNX⟩
                    case measure => simp [intOf]
              · have t1 : ((xt : Int) != 160) = true := by simp only [bne_iff_ne, ne_eq]; omega
                have HNX := hide (show RelD r 1 P X rest from by
                  have hpd : partD 160 rest = .ok ([], rest) := by rw [hxq, partD, if_neg hxt]
                  exact ⟨by rw [HREL.out.2.1, HREL.out.1, hpd]; rfl, HREL.out.2.2⟩)
                clear h0 hx0 hxq hqm hy1 hy1d hxt
                go_wp2_with fail
                go_roundw
                case rel => exact ⟨1, P, X, _, B, c, d, rest, _, c8, by omega, by go_num, rfl, HSR.out, HP.out, HMR.out, HNX⟩
                case measure => simp [intOf]
          | 1, _, HREL =>
            rw [show ((1 : Nat) : Int) = 1 from rfl]
            obtain ⟨p0, p1⟩ := HP.out.ptr
            by_cases h0 : rest = []
            · have t0 : ((rest.length : Int) == 0) = true := by rw [h0]; rfl
              have HNX := hide (show RelD r 2 P X rest from (by have h := HREL.out.1; show r = decSX P (.ok (X, rest)); rw [HREL.out.2, h0]; rw [h0] at h; exact h))
              clear h0
              go_wp2_with fail
              go_roundw
              case rel => exact ⟨2, P, X, A, B, c, d, rest, A8, c8, by omega, by go_num, rfl, HSR.out, HP.out, HMR.out, HNX⟩
              case measure => simp [intOf]
            · obtain ⟨x, q, hxq⟩ : ∃ x q, rest = x :: q := by
                match rest, h0 with
                | x :: q, _ => exact ⟨x, q, rfl⟩
              have hl0 : 0 < rest.length := by rw [hxq]; simp
              have t0 : ((rest.length : Int) == 0) = false := by rw [beq_eq_false_iff_ne]; omega
              have hl0' : (0 : Int) < (rest.length : Int) := by omega
              obtain ⟨b, off, hA, hbS, f0, f1, -⟩ := HSR.out.eltAt (i := 0) hl0
              subst hA
              have hx0 : rest[0] = x := by simp [hxq]
              rw [hx0] at f0 f1
              have hxm := HMB.out x (HMR.out x (by rw [hxq]; simp))
              have hqm : ∀ y ∈ q, y ∈ L := fun y hy => HMR.out y (by rw [hxq]; simp [hy])
              obtain ⟨xt, xc, xw⟩ := x
              simp only [Nat.zero_mul, Nat.add_zero] at f0 f1
              simp only at hxm
              obtain ⟨y1, hy1⟩ : ∃ y : ByteArray, y = ⟨xc.toArray⟩ := ⟨_, rfl⟩
              have hy1d : xc = y1.data.toList := by rw [hy1]
              rw [← hy1] at f1
              rw [hy1d, size_string] at hxm
              by_cases hxt : xt = 161
              · have t1 : ((xt : Int) != 161) = false := by rw [hxt]; rfl
                obtain ⟨o5, ho5⟩ : ∃ o, decP2 y1.data.toList = o := ⟨_, rfl⟩
                have HO5 := hide ho5
                have HPD := hide (show partD 161 rest = partR q o5 by rw [hxq, partD, if_pos hxt, ← ho5, hy1d])
                have HXQ := hide hxq
                have HQM := hide hqm
                have hql : rest.length = q.length + 1 := by rw [hxq]; simp
                have HQL := hide hql
                have HSQ := hide (show Sl RElt 3 wi (Btw (gS + 1) wi.heap.size) q [.slice (some ⟨b, off + 3, none⟩) q.length (c8 - 1)] from (hxq ▸ HSR.out).tail9)
                clear h0 hx0 hxq hqm hql hy1 hy1d hxt ho5
                go_wp2_with fail
                refine (decodePart_any y1 (by omega) _ (HMX.out.below HP.out.b.base) (HTB.out.below HP.out.b.base)).mono ?_
                rintro e w6 ⟨A6, c6, rfl, hsl6, hb6, hmed6⟩
                rw [HO5.out] at hsl6 hmed6 ⊢
                have hD6 := HP.out.grow hb6
                have hSQ6 : Sl RElt 3 w6 (Btw (gS + 1) w6.heap.size) q [.slice (some ⟨b, off + 3, none⟩) q.length (c8 - 1)] := (Sl.ok RElt.ok).mono HSQ.out (fun k hk => hb6.block k hk.2) (fun k hk => ⟨hk.1, Nat.lt_of_lt_of_le hk.2 hb6.size⟩)
                have hgy := HP.out.s.lt
                clear f0 f1 p0 p1 hb6
                obtain ⟨s0, s1, k0, k1⟩ := hD6.s.facts
                have hgS4 : g4 < gS := h4S
                cases o5 with
                | error k9 =>
                  have hk9 : k9 ≠ 0 := fun h => decP2_err0 _ (h ▸ HO5.out)
                  have ht : (k9 != 0) = true := by simpa using hk9
                  have HN := hide (show r = .error k9 from (by rw [HREL.out.1, HPD.out]; rfl))
                  have HB6 := hide (hD6.b.set (j := 1) hgS4 (.slice A6 0 c6))
                  rw [show toGs (.error k9) = (k9, []) from rfl]
                  clear hk9 hsl6 hmed6 hD6 hSQ6
                  go_upto_region 16 with fail
                  obtain ⟨w7, hw7⟩ : ∃ W, W = w6.setCell ⟨gS, 1, none⟩ (.slice A6 0 c6) := ⟨_, rfl⟩
                  rw [← hw7] at HB6
                  try rw [← hw7]
                  clear hw7 s0 s1 k0 k1
                  obtain ⟨n0, n1, -, -⟩ := (HB6.out).n4.facts
                  obtain ⟨m0, m1, k0, k1⟩ := (HB6.out).n2.facts
                  go_wp2_with fail
                  have hst := (HB6.out).n2.store (.slice none 0 0) (.slice none 0 0)
                  have hbz := ((HB6.out).base.setCell (p := ⟨g2, 0, none⟩) (HB6.out).lo (.slice none 0 0)).setCell (p := ⟨g2, 1, none⟩) (HB6.out).lo (.slice none 0 0)
                  obtain ⟨W3, hW3⟩ : ∃ W3, W3 = (w7.setCell ⟨g2, 0, none⟩ (.slice none 0 0)).setCell ⟨g2, 1, none⟩ (.slice none 0 0) := ⟨_, rfl⟩
                  rw [← hW3] at hst hbz ⊢
                  obtain ⟨q8, q9, -, -⟩ := hst.facts
                  exact bodyPost_ret (v := .tuple #[.agg #[.slice none 0 0, .slice none 0 0], .int .i64 k9]) (by simp [results, Tryz.results31, go_sem, q8, q9]) rfl (DecSPost.err HN.out rfl hbz)
                | ok l6 =>
                  rw [show toGs (.ok l6) = (0, l6) from rfl] at hsl6 hmed6 ⊢
                  simp only at hsl6 hmed6 ⊢
                  have hD7 := hD6.setX (B' := A6) (d' := c6) ((Sl.ok RGen.ok).mono hsl6 (fun _ _ => rfl) (fun k hk => ⟨by have := hk.1; omega, hk.2⟩)) (MedGs.app9 (fun g hg => hD6.med g (by simp [hg])) hmed6)
                  have hSQ7 : Sl RElt 3 (w6.setCell ⟨gS, 1, none⟩ (.slice A6 l6.length c6)) (Btw (gS + 1) w6.heap.size) q [.slice (some ⟨b, off + 3, none⟩) q.length (c8 - 1)] := (Sl.ok RElt.ok).mono hSQ6 (fun k hk => Below.heap_setCell w6 ⟨gS, 1, none⟩ _ k (by show k ≠ gS; have := hk.1; omega)) (fun _ hk => hk)
                  have HD7 := hide hD7
                  have HSQ7 := hide hSQ7
                  have HNX := hide (show RelD r 2 P l6 q from (by show r = decSX P (.ok (l6, q)); rw [HREL.out.1, HPD.out]; rfl))
                  clear hsl6 hmed6 hD6 hSQ6 hD7 hSQ7
                  have hq8 : rest.length - 1 = q.length := by have := HQL.out; omega
                  have HQ8 := hide hq8
                  clear hq8
                  by_cases hc1 : c8 = 1
                  · have HQ0 := hide (show q = [] from List.eq_nil_of_length_eq_zero (by have := HQL.out; omega))
                    go_wp2_with fail
                    go_roundw
                    case rel => exact ⟨2, _, _, _, _, _, _, q, _, 0, by omega, by go_num, by rw [HQ8.out], by rw [HQ0.out]; exact Sl.nilAny _ _ _ _ _ _ (by simp [maxLen]), HD7.out, HQM.out, HNX⟩
                    case measure => simp [intOf]
                  · go_wp2_with fail
                    go_roundw
                    case rel => exact ⟨2, _, _, _, _, _, _, q, _, c8 - 1, by omega, by go_num, by rw [HQ8.out], by rw [World.size_setCell]; exact HSQ7.out, HD7.out, HQM.out, HNX⟩
                    case measure => simp [intOf]
              · have t1 : ((xt : Int) != 161) = true := by simp only [bne_iff_ne, ne_eq]; omega
                have HNX := hide (show RelD r 2 P X rest from by
                  have hpd : partD 161 rest = .ok ([], rest) := by rw [hxq, partD, if_neg hxt]
                  show r = decSX P (.ok (X, rest)); rw [HREL.out.2, HREL.out.1, hpd])
                clear h0 hx0 hxq hqm hy1 hy1d hxt
                go_wp2_with fail
                go_roundw
                case rel => exact ⟨2, P, X, _, B, c, d, rest, _, c8, by omega, by go_num, rfl, HSR.out, HP.out, HMR.out, HNX⟩
                case measure => simp [intOf]
          | 2, _, HREL =>
            rw [show ((2 : Nat) : Int) = 2 from rfl]
            have HR := hide (show r = decSX P (.ok (X, rest)) from HREL.out)
            by_cases hrest : rest = []
            · have tl : ¬ (0 : Int) < (rest.length : Int) := by rw [hrest]; simp
              have HR2 := hide (show r = decSC (P, X) by rw [HR.out, decSX, if_neg (by simpa using hrest)])
              obtain ⟨q, hq⟩ : ∃ q, chkS (P, X) = q := ⟨_, rfl⟩
              have HQ := hide hq
              have o1 := HP.out.b.o1
              have o3 := HP.out.o3
              have hgS := HP.out.s.lt
              have CK := hide (SCheck_any P X A B c d HP.out.med q hq wi (HMX.out.below HP.out.b.base) ((Sl.ok RGen.ok).mono HP.out.kp (fun _ _ => rfl) (fun _ hk => hk.2)) ((Sl.ok RGen.ok).mono HP.out.kx (fun _ _ => rfl) (fun _ hk => hk.2)))
              obtain ⟨s0, s1, -, -⟩ := HP.out.s.facts
              clear hrest hq
              go_wp2_with fail
              refine CK.out.mono ?_
              rintro e w21 ⟨rfl, hb21⟩
              have HD21 := hide (HP.out.grow hb21)
              clear hb21 s0 s1
              by_cases hq0 : q = 0
              · have htq : (q != 0) = false := by simp [hq0]
                have HN := hide (show r = .ok (P, X) by rw [HR2.out, decSC, if_pos (by rw [HQ.out]; exact hq0)])
                clear hq0
                obtain ⟨s0, s1, -, -⟩ := HD21.out.s.facts
                obtain ⟨m0, m1, k0, k1⟩ := HD21.out.b.n2.facts
                go_wp2_with fail
                have hst := HD21.out.b.n2.store (.slice A P.length c) (.slice B X.length d)
                have hbz := (HD21.out.b.base.setCell (p := ⟨g2, 0, none⟩) HD21.out.b.lo (.slice A P.length c)).setCell (p := ⟨g2, 1, none⟩) HD21.out.b.lo (.slice B X.length d)
                have hne : ∀ k, Btw (gS + 1) w21.heap.size k → k ≠ g2 := fun k hk => by have := hk.1; omega
                have hkp := sl_set (g := g2) (j := 1) (sl_set (g := g2) (j := 0) HD21.out.kp hne (.slice A P.length c)) hne (.slice B X.length d)
                have hkx := sl_set (g := g2) (j := 1) (sl_set (g := g2) (j := 0) HD21.out.kx hne (.slice A P.length c)) hne (.slice B X.length d)
                have hz3 : ((w21.setCell ⟨g2, 0, none⟩ (.slice A P.length c)).setCell ⟨g2, 1, none⟩ (.slice B X.length d)).heap.size = w21.heap.size := by simp
                obtain ⟨W3, hW3⟩ : ∃ W3, W3 = (w21.setCell ⟨g2, 0, none⟩ (.slice A P.length c)).setCell ⟨g2, 1, none⟩ (.slice B X.length d) := ⟨_, rfl⟩
                rw [← hW3] at hst hbz hkp hkx hz3 ⊢
                obtain ⟨q8, q9, -, -⟩ := hst.facts
                exact bodyPost_ret (v := .tuple #[.agg #[.slice A P.length c, .slice B X.length d], .int .i64 0]) (by simp [results, Tryz.results31, go_sem, q8, q9]) rfl (DecSPost.ok HN.out rfl ((Sl.ok RGen.ok).mono hkp (fun _ _ => rfl) (fun k hk => by show k < _; rw [hz3]; exact hk.2)) ((Sl.ok RGen.ok).mono hkx (fun _ _ => rfl) (fun k hk => by show k < _; rw [hz3]; exact hk.2)) hbz)
              · have htq : (q != 0) = true := by simp [hq0]
                have HN := hide (show r = .error q by rw [HR2.out, decSC, if_neg (by rw [HQ.out]; exact hq0), HQ.out])
                clear hq0
                obtain ⟨n0, n1, -, -⟩ := (HD21.out.b).n4.facts
                obtain ⟨m0, m1, k0, k1⟩ := (HD21.out.b).n2.facts
                go_wp2_with fail
                have hst := (HD21.out.b).n2.store (.slice none 0 0) (.slice none 0 0)
                have hbz := ((HD21.out.b).base.setCell (p := ⟨g2, 0, none⟩) (HD21.out.b).lo (.slice none 0 0)).setCell (p := ⟨g2, 1, none⟩) (HD21.out.b).lo (.slice none 0 0)
                obtain ⟨W3, hW3⟩ : ∃ W3, W3 = (w21.setCell ⟨g2, 0, none⟩ (.slice none 0 0)).setCell ⟨g2, 1, none⟩ (.slice none 0 0) := ⟨_, rfl⟩
                rw [← hW3] at hst hbz ⊢
                obtain ⟨q8, q9, -, -⟩ := hst.facts
                exact bodyPost_ret (v := .tuple #[.agg #[.slice none 0 0, .slice none 0 0], .int .i64 q]) (by simp [results, Tryz.results31, go_sem, q8, q9]) rfl (DecSPost.err HN.out rfl hbz)
            · have tl : (0 : Int) < (rest.length : Int) := by
                have : rest.length ≠ 0 := fun h => hrest (List.eq_nil_of_length_eq_zero h)
                omega
              have HN := hide (show r = .error 4 by rw [HR.out, decSX, if_pos hrest])
              have HB20 := hide HP.out.b
              clear hrest
              obtain ⟨n0, n1, -, -⟩ := (HB20.out).n4.facts
              obtain ⟨m0, m1, k0, k1⟩ := (HB20.out).n2.facts
              go_wp2_with fail
              have hst := (HB20.out).n2.store (.slice none 0 0) (.slice none 0 0)
              have hbz := ((HB20.out).base.setCell (p := ⟨g2, 0, none⟩) (HB20.out).lo (.slice none 0 0)).setCell (p := ⟨g2, 1, none⟩) (HB20.out).lo (.slice none 0 0)
              obtain ⟨W3, hW3⟩ : ∃ W3, W3 = (wi.setCell ⟨g2, 0, none⟩ (.slice none 0 0)).setCell ⟨g2, 1, none⟩ (.slice none 0 0) := ⟨_, rfl⟩
              rw [← hW3] at hst hbz ⊢
              obtain ⟨q8, q9, -, -⟩ := hst.facts
              exact bodyPost_ret (v := .tuple #[.agg #[.slice none 0 0, .slice none 0 0], .int .i64 4]) (by simp [results, Tryz.results31, go_sem, q8, q9]) rfl (DecSPost.err HN.out rfl hbz)
          | n + 3, h, _ => exact absurd h (by omega)
    · have t48 : ((t : Int) != 48) = true := by simp only [bne_iff_ne, ne_eq]; omega
      have ho5 : ol = .error 5 := by rw [← HOL.out, openF, if_pos (by omega)]
      have HN := hide (show r = .error 5 by rw [HR0.out, ho5]; rfl)
      have HB5 := hide HBAA.out
      clear h48 ho5
      obtain ⟨n0, n1, -, -⟩ := (HBAA.out).n4.facts
      obtain ⟨m0, m1, k0, k1⟩ := (HBAA.out).n2.facts
      go_wp2_with fail
      have hst := (HBAA.out).n2.store (.slice none 0 0) (.slice none 0 0)
      have hbz := ((HBAA.out).base.setCell (p := ⟨g2, 0, none⟩) (HBAA.out).lo (.slice none 0 0)).setCell (p := ⟨g2, 1, none⟩) (HBAA.out).lo (.slice none 0 0)
      obtain ⟨W3, hW3⟩ : ∃ W3, W3 = (wA.setCell ⟨g2, 0, none⟩ (.slice none 0 0)).setCell ⟨g2, 1, none⟩ (.slice none 0 0) := ⟨_, rfl⟩
      rw [← hW3] at hst hbz ⊢
      obtain ⟨q8, q9, -, -⟩ := hst.facts
      exact bodyPost_ret (v := .tuple #[.agg #[.slice none 0 0, .slice none 0 0], .int .i64 5]) (by simp [results, Tryz.results31, go_sem, q8, q9]) rfl (DecSPost.err HN.out rfl hbz)
end Go.Proofs.YtahamclodagihaaGreatDoor
