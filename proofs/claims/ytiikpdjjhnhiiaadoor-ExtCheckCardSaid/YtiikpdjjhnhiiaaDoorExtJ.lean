/- ext.Decode. -/
import Derived.Test.YtiikpdjjhnhiiaaDoorExtI
import Derived.Test.YtiikpdjjhnhiiaaDoorOidU
namespace Go.Proofs.YtiikpdjjhnhiiaaDoor
open Go.RowKit

def preY (out : List Ext) : Except Int (List Ext) → Except Int (List Ext)
  | .error k => .error k
  | .ok l => .ok (out ++ l)
theorem preY_at {L : List Elt} {k : Nat} (h : k < L.length) {out : List Ext} {x : Ext} (he : decX L[k] = .ok x) : preY out (decXs (L.drop k)) = preY (out ++ [x]) (decXs (L.drop (k + 1))) := by
  rw [List.drop_eq_getElem_cons h, decXs, he]
  cases decXs (L.drop (k + 1)) <;> simp [preY]
theorem preY_err {L : List Elt} {k : Nat} (h : k < L.length) {out : List Ext} {e : Int} (he : decX L[k] = .error e) : preY out (decXs (L.drop k)) = .error e := by
  rw [List.drop_eq_getElem_cons h, decXs, he]
  rfl
def decYG : Except Int (List Ext) → Except Int (List Ext)
  | .error k => .error k
  | .ok xs => if chkE xs = 0 then .ok xs else .error (chkE xs)
def decLG : Except Int (List Elt) → Except Int (List Ext)
  | .error k => .error k
  | .ok l => decYG (decXs l)
def decOG : Except Int Elt → Except Int (List Ext)
  | .error k => .error k
  | .ok e => if e.1 ≠ 48 then .error 5 else decLG (listF e.2.1)
theorem decE_eq (b : List UInt8) : decE b = decOG (oneF b) := by
  unfold decE decOG
  cases oneF b with
  | error k => rfl
  | ok e =>
    simp only
    split
    · rfl
    · unfold decLG
      cases listF e.2.1 with
      | error k => rfl
      | ok l =>
        simp only
        unfold decYG
        cases decXs l <;> rfl
theorem decX_small {e : Elt} {x : Ext} (h : decX e = .ok x) : x.1.length ≤ 1000000 ∧ x.2.2.length ≤ 1000000 := by
  unfold decX at h
  split at h
  · cases h
  · cases hL : listF e.2.1 with
    | error k => rw [hL] at h; cases h
    | ok l =>
      rw [hL] at h
      simp only at h
      have hm := list_is_wrap _ _ _ (Nat.le_refl _) hL
      match l, h with
      | [], h => cases h
      | a :: r, h =>
        rw [decL'] at h
        split at h
        · cases h
        · cases hd : decP a.2.1 with
          | none => rw [hd] at h; cases h
          | some id =>
            rw [hd] at h
            simp only at h
            have hid := decP_size hd
            cases hb : boolF r with
            | error k => rw [hb] at h; cases h
            | ok p =>
              obtain ⟨c, r'⟩ := p
              rw [hb] at h
              simp only at h
              have hsub : ∀ v ∈ r', v ∈ r := by
                match r, hb with
                | [], hb => cases hb; intro v hv; cases hv
                | b :: r2, hb =>
                  rw [boolF] at hb
                  split at hb
                  · split at hb
                    · simp only [Except.ok.injEq, Prod.mk.injEq] at hb
                      obtain ⟨_, rfl⟩ := hb
                      intro v hv; simp [hv]
                    · cases hb
                  · simp only [Except.ok.injEq, Prod.mk.injEq] at hb
                    obtain ⟨_, rfl⟩ := hb
                    intro v hv; exact hv
              match r', h with
              | [], h => cases h
              | v :: q, h =>
                rw [decV] at h
                split at h
                · cases h
                · split at h
                  · cases h
                  · cases h
                    have := (hm v (by simp [hsub v (by simp)])).2.2.1
                    exact ⟨by show id.length ≤ _; omega, by show v.2.1.length ≤ _; omega⟩
theorem decXs_small : ∀ (L : List Elt) (l : List Ext), (∀ e ∈ L, e.2.1.length ≤ 131072) → decXs L = .ok l → SmallX l ∧ l.length = L.length
  | [], l, _, h => by cases h; exact ⟨(fun x hx => by cases hx), rfl⟩
  | e :: r, l, he, h => by
    rw [decXs] at h
    cases hx : decX e with
    | error k => rw [hx] at h; cases h
    | ok x =>
      rw [hx] at h
      simp only at h
      cases hr : decXs r with
      | error k => rw [hr] at h; cases h
      | ok l' =>
        rw [hr] at h
        cases h
        obtain ⟨h1, h2⟩ := decXs_small r l' (fun y hy => he y (by simp [hy])) hr
        refine ⟨fun y hy => ?_, by simp [h2]⟩
        rcases List.mem_cons.1 hy with rfl | hy
        · exact decX_small hx
        · exact h1 y hy
theorem decV_err0 {id : List UInt8} {c : Bool} {l : List Elt} : decV id c l ≠ .error 0 := by
  match l with
  | [] => simp [decV]
  | v :: q =>
    rw [decV]
    split
    · simp
    · split <;> simp
theorem decX_err0 (e : Elt) : decX e ≠ .error 0 := by
  unfold decX
  split
  · simp
  · cases hL : listF e.2.1 with
    | error k =>
      simp only
      intro h
      cases h
      exact list_err0 _ _ (Nat.le_refl _) hL
    | ok l =>
      simp only
      match l with
      | [] => simp [decL']
      | a :: r =>
        rw [decL']
        split
        · simp
        · cases decP a.2.1 with
          | none => simp
          | some id =>
            simp only
            cases hb : boolF r with
            | error k =>
              simp only
              intro h
              cases h
              match r, hb with
              | [], hb => cases hb
              | b :: r2, hb =>
                rw [boolF] at hb
                split at hb
                · split at hb
                  · cases hb
                  · cases hb
                · cases hb
            | ok p => exact decV_err0
def decRes : Except Int (List Ext) → World → Ending → World → Prop
  | .error k, _, e, _ => e = .returned (.tuple #[.slice none 0 0, .int .i64 k])
  | .ok l, _, e, w' => ∃ A c, e = .returned (.tuple #[.slice A l.length c, .int .i64 0]) ∧ Sl RExt 3 w' (Lt w'.heap.size) l [.slice A l.length c] ∧ SmallX l
def DecPost (w : World) (o : Except Int (List Ext)) (e : Ending) (w' : World) : Prop := Below w.heap.size w w' ∧ decRes o w e w'
theorem DecPost.err {w w' : World} {o : Except Int (List Ext)} {k : Int} (h : o = .error k) (hb : Below w.heap.size w w') : DecPost w o (.returned (.tuple #[.slice none 0 0, .int .i64 k])) w' := by
  subst h; exact ⟨hb, rfl⟩
theorem DecPost.ok {w w' : World} {o : Except Int (List Ext)} {l : List Ext} {A : Option Addr} {n c : Nat} (h : o = .ok l) (hb : Below w.heap.size w w') (hs : Sl RExt 3 w' (Lt w'.heap.size) l [.slice A n c]) (hsm : SmallX l) : DecPost w o (.returned (.tuple #[.slice A n c, .int .i64 0])) w' := by
  subst h
  obtain ⟨rfl, _⟩ := hs.len_
  exact ⟨hb, A, c, rfl, hs, hsm⟩
theorem news_ext (w : World) (S : Nat → Prop) (t : TypeId) (cr : Bool) (x1 x2 : ByteArray) :
    ∀ i y, [((x1.data.toList, cr, x2.data.toList) : Ext)][i]? = some y → ∃ cs, RExt (w.alloc (.cells #[.string x1, .bool cr, .string x2] t)) S y cs ∧ ∀ j u, cs[j]? = some u → (w.alloc (.cells #[.string x1, .bool cr, .string x2] t)).cell? ((⟨w.heap.size, 0, none⟩ : Addr).add (i * 3 + j)) = some u :=
  news_pu (f := extC) (size := 3) (fun _ => rfl) w S _ t _ rfl
theorem declen {L : List Elt} {out : List Ext} {k : Nat} (h : out.length ≤ k) (hk : k ≤ L.length) (hL : L.length ≤ 131072) : out.length ≤ 131072 := by omega



theorem echk_q (l : List Ext) (q : Int) (hq : chkE l = q) (A : Option Addr) (c : Nat) (w : World) (hmx : Mx w) (h : Sl RExt 3 w (Lt w.heap.size) l [.slice A l.length c]) (hsm : SmallX l) :
    Calls Tryd.prog 33 #[.slice A l.length c] w fun e w' => e = .returned (.int .i64 q) ∧ Below w.heap.size w w' := hq ▸ ECheck_any l A c w hmx h hsm

set_option maxRecDepth 100000 in
set_option maxHeartbeats 16000000 in
theorem EDecode_any (s : ByteArray) (hs : s.size ≤ 1000000000) (w : World) (hmx : Mx w) (htb : Tb w) :
    Calls Tryd.prog 30 #[.string s] w (DecPost w (decE s.data.toList)) := by
  obtain ⟨r, hr⟩ : ∃ r, decE s.data.toList = r := ⟨_, rfl⟩
  rw [hr]
  obtain ⟨oe, hoe⟩ : ∃ o, oneF s.data.toList = o := ⟨_, rfl⟩
  have HRO := hide (show r = decOG oe by rw [← hr, decE_eq, hoe])
  have HOE := hide hoe
  have HMX := hide hmx
  have HTB := hide htb
  clear hr hoe hmx htb
  go_enter Tryd.func30, Tryd.ntmps30
  go_wp2_with fail
  refine (One_any s hs _).mono ?_
  rintro e w1 ⟨rfl, hb1⟩
  rw [HOE.out]
  have HB1 := hide hb1
  have hs1 := hb1.size
  clear hb1
  cases oe with
  | error k =>
    have hk : k ≠ 0 := fun h => one_err0 _ (h ▸ HOE.out)
    have ht : (k != 0) = true := by simpa using hk
    have HY := hide (show r = .error k from HRO.out)
    rw [show oneR (.error k) = .tuple #[.agg #[.int .i64 0, .string ⟨#[]⟩, .string ⟨#[]⟩], .int .i64 k] from rfl]
    clear hk
    go_wp2_with fail
    go_ret2
    exact DecPost.err HY.out (HB1.out.alloc HB1.out.size _)
  | ok p =>
    obtain ⟨t, c, raw⟩ := p
    have hw := one_is_wrap HOE.out
    have hcl : c.length ≤ 131072 := hw.2.2.1
    obtain ⟨x1, hx1⟩ : ∃ x : ByteArray, x = ⟨c.toArray⟩ := ⟨_, rfl⟩
    obtain ⟨x2, hx2⟩ : ∃ x : ByteArray, x = ⟨raw.toArray⟩ := ⟨_, rfl⟩
    have hx1d : c = x1.data.toList := by rw [hx1]
    rw [show oneR (.ok (t, c, raw)) = .tuple #[.agg #[.int .i64 (t : Int), .string x1, .string x2], .int .i64 0] by rw [oneR, eltV, hx1, hx2]]
    have HRO2 := hide (show r = if t ≠ 48 then .error 5 else decLG (listF x1.data.toList) by rw [HRO.out, ← hx1d]; rfl)
    rw [hx1d, size_string] at hcl
    clear hw hx1 hx2 hx1d
    go_upto_region 2 with fail
    obtain ⟨wA, hwA⟩ : ∃ W, W = w1.alloc (.cells #[.int .i64 (t : Int), .string x1, .string x2] 38) := ⟨_, rfl⟩
    have n0 : wA.cell? ⟨w1.heap.size, 0, none⟩ = some (.int .i64 (t : Int)) := by rw [hwA, World.cell?_alloc_new]; rfl
    have n1 : wA.cell? ⟨w1.heap.size, 1, none⟩ = some (.string x1) := by rw [hwA, World.cell?_alloc_new]; rfl
    have HBA := hide (show Below w.heap.size w wA by rw [hwA]; exact HB1.out.alloc (by omega) _)
    rw [← hwA]
    clear hwA
    by_cases h48 : t = 48
    · have ht : ((t : Int) != 48) = false := by rw [h48]; rfl
      obtain ⟨ol, hol⟩ : ∃ o, listF x1.data.toList = o := ⟨_, rfl⟩
      have HR0 := hide (show r = decLG ol by rw [HRO2.out, if_neg (by simpa using h48), hol])
      have HOL := hide hol
      clear h48 hol
      go_wp2_with fail
      refine (List_any x1 (by omega) _).mono ?_
      rintro e wL ⟨hbL, hres⟩
      rw [HOL.out] at hres
      have HBL := hide (HBA.out.trans (hbL.mono HBA.out.size))
      clear hbL n0 n1
      cases ol with
      | error k =>
        obtain rfl : e = _ := hres
        have hk : k ≠ 0 := fun h => list_err0 _ _ (Nat.le_refl _) (h ▸ HOL.out)
        have ht2 : (k != 0) = true := by simpa using hk
        have HY := hide (show r = .error k from HR0.out)
        clear hk
        go_wp2_with fail
        go_ret2
        exact DecPost.err HY.out HBL.out
      | ok L =>
        obtain ⟨A, cp, rfl, hsl⟩ := hres
        obtain ⟨-, hlc, hcm⟩ := hsl.len_
        unfold maxLen at hcm
        have hL := list_len _ _ _ (Nat.le_refl _) HOL.out
        rw [size_string] at hL
        have hL : L.length ≤ 131072 := Nat.le_trans hL hcl
        have HMM := hide (fun e (he : e ∈ L) => (list_is_wrap _ _ _ (Nat.le_refl _) HOL.out e he).2.2.1)
        have HML := hide (fun (k : Nat) (h : k < L.length) => HMM.out L[k] (List.getElem_mem h))
        have HSL := hide hsl
        have HR := hide (show r = decYG (decXs L) from HR0.out)
        have H0 := hide (show decXs L = preY [] (decXs (L.drop 0)) by rw [List.drop_zero]; cases decXs L <;> rfl)
        obtain ⟨base, hbase⟩ : ∃ b, b = wL.heap.size := ⟨_, rfl⟩
        have HBASE := hide hbase
        have hgs0 : base ≤ wL.heap.size := by omega
        clear hsl hbase ht
        go_wp2_with fail
        go_loopw [7, 35] (fun v i wr => ∃ (k : Nat) (out : List Ext), k ≤ L.length ∧ i = .int .i64 k ∧ out.length ≤ k ∧ Own RExt 3 49 wr base No v out ∧ Below wL.heap.size wL wr ∧ base ≤ wr.heap.size ∧ Hid (decXs L = preY out (decXs (L.drop k)))) (fun _ i _ => L.length - (intOf i).toNat)
        case atStart => exact ⟨0, [], by omega, rfl, by simp, Own.nil _ _ _ _ _ _, Below.refl _ _, hgs0, H0⟩
        case round =>
          obtain ⟨k, out, hk, rfl, hol, hown, hb, hgs, H⟩ := hrel
          have HB := hide hb
          have HOWN := hide hown
          have hbase := HBASE.out
          have hzb := HBL.out.size
          clear hb
          by_cases hlt : k < L.length
          · obtain ⟨b, off, hA, hbS, e0, e1, e2⟩ := HSL.out.eltAt hlt
            subst hA
            have hcl := HML.out k hlt
            have HPS := hide (fun (x : Ext) (h : decX L[k] = .ok x) => H.out.trans (preY_at hlt h))
            have HPN := hide (fun (e : Int) (h : decX L[k] = .error e) => H.out.trans (preY_err hlt h))
            obtain ⟨⟨et, ec, er⟩, hel⟩ : ∃ e, L[k] = e := ⟨_, rfl⟩
            rw [hel] at e0 e1 e2 hcl HPS HPN
            simp only at e0 e1 e2 hcl
            obtain ⟨z1, hz1⟩ : ∃ x : ByteArray, x = ⟨ec.toArray⟩ := ⟨_, rfl⟩
            obtain ⟨z2, hz2⟩ : ∃ x : ByteArray, x = ⟨er.toArray⟩ := ⟨_, rfl⟩
            have hz1d : ec = z1.data.toList := by rw [hz1]
            have hz2d : er = z2.data.toList := by rw [hz2]
            rw [← hz1] at e1
            rw [← hz2] at e2
            rw [hz1d] at hcl
            rw [size_string] at hcl
            rw [hz1d, hz2d] at HPS HPN
            obtain ⟨o, ho⟩ : ∃ o, decX (et, z1.data.toList, z2.data.toList) = o := ⟨_, rfl⟩
            rw [ho] at HPS HPN
            have HO := hide ho
            have p0 := (HB.out.cell (p := ⟨b, off + k * 3, none⟩) hbS.2).trans e0
            have p1 := (HB.out.cell (p := ⟨b, off + k * 3 + 1, none⟩) hbS.2).trans e1
            have p2 := (HB.out.cell (p := ⟨b, off + k * 3 + 2, none⟩) hbS.2).trans e2
            have hol2 := declen hol hk hL
            obtain ⟨A2, cp2, hv⟩ := (hown.sl RExt.ok).shape
            subst hv
            clear e0 e1 e2 hz1 hz2 hel hz1d hz2d ho hown
            obtain ⟨wo, rfl⟩ : ∃ wo : World, wo = wr := ⟨_, rfl⟩
            go_upto_region 13 with fail
            obtain ⟨wB, hwB⟩ : ∃ W, W = wo.alloc (.cells #[.int .i64 (et : Int), .string z1, .string z2] 38) := ⟨_, rfl⟩
            have q0 : wB.cell? ⟨wo.heap.size, 0, none⟩ = some (.int .i64 (et : Int)) := by rw [hwB, World.cell?_alloc_new]; rfl
            have q1 : wB.cell? ⟨wo.heap.size, 1, none⟩ = some (.string z1) := by rw [hwB, World.cell?_alloc_new]; rfl
            have q2 : wB.cell? ⟨wo.heap.size, 2, none⟩ = some (.string z2) := by rw [hwB, World.cell?_alloc_new]; rfl
            have hbB : Below wo.heap.size wo wB := by rw [hwB]; exact (Below.refl _ _).alloc (Nat.le_refl _) _
            have HBB := hide (HB.out.trans (hbB.mono HB.out.size))
            have HOB := hide (HOWN.out.below RExt.ok (no_lt _) hbB)
            have hzB := hbB.size
            rw [← hwB]
            clear hwB p0 p1 p2 hbB
            obtain ⟨gx, hgx⟩ : ∃ g, wo.heap.size = g := ⟨_, rfl⟩
            rw [hgx] at q0 q1 q2 ⊢
            clear hgx
            go_wp2_with fail
            refine (decOne_any et z1 z2 hcl _ (HTB.out.below (HBL.out.trans (HBB.out.mono HBL.out.size)))).mono ?_
            rintro e w5 ⟨rfl, hb5⟩
            rw [HO.out]
            have HB5 := hide (HBB.out.trans (hb5.mono HBB.out.size))
            have HO5 := hide (HOB.out.below RExt.ok (no_lt _) hb5)
            have hz5 := hb5.size
            clear hb5 q0 q1 q2
            cases o with
            | error k9 =>
              have hk9 : k9 ≠ 0 := fun h => decX_err0 _ (h ▸ HO.out)
              have ht : (k9 != 0) = true := by simpa using hk9
              have HY := hide (show r = .error k9 by rw [HR.out, HPN.out k9 rfl]; rfl)
              rw [show decXR (.error k9) = .tuple #[.agg #[.string ⟨#[]⟩, .bool false, .string ⟨#[]⟩], .int .i64 k9] from rfl]
              clear hk9
              go_wp2_with fail
              go_ret2
              exact DecPost.err HY.out ((HBL.out.trans (HB5.out.mono HBL.out.size)).alloc (by omega) _)
            | ok x =>
              obtain ⟨id, cr, va⟩ := x
              obtain ⟨x1, hx1⟩ : ∃ x : ByteArray, x = ⟨id.toArray⟩ := ⟨_, rfl⟩
              obtain ⟨x2, hx2⟩ : ∃ x : ByteArray, x = ⟨va.toArray⟩ := ⟨_, rfl⟩
              have hid : id = x1.data.toList := by rw [hx1]
              have hva : va = x2.data.toList := by rw [hx2]
              have HY := hide (show decXs L = preY (out ++ [(x1.data.toList, cr, x2.data.toList)]) (decXs (L.drop (k + 1))) by rw [HPS.out _ rfl, hid, hva])
              rw [show decXR (.ok (id, cr, va)) = .tuple #[.agg #[.string x1, .bool cr, .string x2], .int .i64 0] by rw [decXR, extV, hx1, hx2]]
              clear hx1 hx2 hid hva
              go_upto_region 14 with fail
              obtain ⟨wC, hwC⟩ : ∃ W, W = w5.alloc (.cells #[.string x1, .bool cr, .string x2] 49) := ⟨_, rfl⟩
              have s0 : wC.cell? ⟨w5.heap.size, 0, none⟩ = some (.string x1) := by rw [hwC, World.cell?_alloc_new]; rfl
              have s1 : wC.cell? ⟨w5.heap.size, 1, none⟩ = some (.bool cr) := by rw [hwC, World.cell?_alloc_new]; rfl
              have s2 : wC.cell? ⟨w5.heap.size, 2, none⟩ = some (.string x2) := by rw [hwC, World.cell?_alloc_new]; rfl
              have hbC : Below w5.heap.size w5 wC := by rw [hwC]; exact (Below.refl _ _).alloc (Nat.le_refl _) _
              have HBC := hide (HB5.out.trans (hbC.mono HB5.out.size))
              have HOC := hide (HO5.out.below RExt.ok (no_lt _) hbC)
              have hzC := hbC.size
              rw [← hwC]
              clear hwC hbC
              obtain ⟨gy, hgy⟩ : ∃ g, w5.heap.size = g := ⟨_, rfl⟩
              rw [hgy] at s0 s1 s2 ⊢
              clear hgy
              go_wp2_with (at_builtin; refine wpList_app RExt.ok _ rfl (.tmp 47) (.tmp 49) 50 rfl base 49 (.agg #[.string ⟨#[]⟩, .bool false, .string ⟨#[]⟩]) 40 Tryd.underlying50 info_ext rfl (by decide) No _ out rfl (HOC.out.alloc RExt.ok (no_lt _) _) ⟨_, 0, none⟩ 1 1 [(x1.data.toList, cr, x2.data.toList)] rfl rfl (news_ext _ _ _ cr x1 x2) (no_lt _) (by simp; omega) (by simp [maxLen]; omega) (by simp; omega) ?_; intro v2 w2 hown2 hg2 hb2 hat2; have hsz2 := hb2.size; simp at hsz2)
              go_roundw
              case rel => exact ⟨k + 1, _, by omega, by go_num, by simp; omega, hown2, (HBC.out.alloc HBC.out.size _).trans (hb2.mono (by omega)), by omega, HY⟩
              case measure => simp [intOf]; omega
          · have HD := hide (show decXs L = .ok out by rw [H.out, List.drop_of_length_le (by omega)]; simp [preY, decXs])
            obtain ⟨hsm, hlen⟩ := decXs_small L out HMM.out HD.out
            have hsl := (Sl.ok RExt.ok).mono (HOWN.out.sl RExt.ok) (S' := Lt wr.heap.size) (fun _ _ => rfl) (fun j hj => by rcases hj with hj | hj; exact hj.elim; exact hj.2)
            obtain ⟨A2, cp2, hv⟩ := hsl.shape
            subst hv
            have HSLO := hide hsl
            have HSM := hide hsm
            obtain ⟨q, hq⟩ : ∃ q, chkE out = q := ⟨_, rfl⟩
            have HQ := hide hq
            have HBW := hide (HBL.out.trans (HB.out.mono HBL.out.size))
            clear hsl hsm hq hown hlen
            go_wp2_with fail
            refine (echk_q out q HQ.out A2 cp2 _ (HMX.out.below HBW.out) HSLO.out HSM.out).mono ?_
            rintro e w5 ⟨rfl, hb5⟩
            have HB5 := hide (HBW.out.trans (hb5.mono HBW.out.size))
            have HSL5 := hide ((Sl.ok RExt.ok).mono HSLO.out (fun j hj => hb5.block j hj) (S' := Lt w5.heap.size) (fun j hj => Nat.lt_of_lt_of_le hj hb5.size))
            clear hb5
            by_cases hq0 : q = 0
            · have ht : (q != 0) = false := by simp [hq0]
              have HY := hide (show r = .ok out by rw [HR.out, HD.out, decYG, if_pos (HQ.out.trans hq0)])
              clear hq0
              go_wp2_with fail
              go_ret2
              exact DecPost.ok HY.out HB5.out HSL5.out HSM.out
            · have ht : (q != 0) = true := by simp [hq0]
              have HY := hide (show r = .error q by rw [HR.out, HD.out, decYG, if_neg (by rw [HQ.out]; exact hq0), HQ.out])
              clear hq0
              go_wp2_with fail
              go_ret2
              exact DecPost.err HY.out HB5.out
    · have ht : ((t : Int) != 48) = true := bne_iff_ne.2 (fun e => h48 (Int.ofNat.inj e))
      have HY := hide (show r = .error 5 by rw [HRO2.out, if_pos h48])
      clear h48
      go_wp2_with fail
      go_ret2
      exact DecPost.err HY.out HBA.out
end Go.Proofs.YtiikpdjjhnhiiaaDoor
