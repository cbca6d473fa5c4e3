/- Extensions, plain: what Encode writes, what Decode reads, and that each inverts the other. -/
import Derived.Test.YtbafpgdmnkkclaaDoorTlvP
import Derived.Test.YtbafpgdmnkkclaaDoorOidN
namespace Go.Proofs.YtbafpgdmnkkclaaDoor
open Go.RowKit

/-- an extension: identifier, critical, value -/
abbrev Ext := List UInt8 × Bool × List UInt8
def chkX : List (List UInt8) → List Ext → Int
  | _, [] => 0
  | pre, x :: r => if validB x.1 = false then 11 else if x.1 ∈ pre then 10 else if checkF x.2.2 ≠ 0 then checkF x.2.2 else chkX (pre ++ [x.1]) r
def chkE (l : List Ext) : Int := if l.length = 0 then 7 else if 24 < l.length then 2 else chkX [] l
def critB (b : Bool) : List UInt8 := if b then wrapW 1 [255] else []
def idW (s : List UInt8) : List UInt8 := wrapW 6 ((encP s).getD [])
def bodyX (x : Ext) (v : List UInt8) : List UInt8 := idW x.1 ++ (critB x.2.1 ++ v)
def encX (x : Ext) : Option (List UInt8) := (wrapO 4 x.2.2).bind fun v => wrapO 48 (bodyX x v)
def encXs : List Ext → Option (List UInt8)
  | [] => some []
  | x :: r => (encX x).bind fun e => (encXs r).map (e ++ ·)
def encE (l : List Ext) : List UInt8 × Int :=
  if chkE l = 0 then (match (encXs l).bind (wrapO 48) with | none => ([], 2) | some b => (b, 0)) else ([], chkE l)
/-- a boolean that may be left out -/
def boolF : List Elt → Except Int (Bool × List Elt)
  | [] => .ok (false, [])
  | b :: r => if b.1 = 1 then (if b.2.1 = [255] then .ok (true, r) else .error 7) else .ok (false, b :: r)
def decV (id : List UInt8) (c : Bool) : List Elt → Except Int Ext
  | [] => .error 3
  | v :: q => if v.1 ≠ 4 then .error 5 else if q ≠ [] then .error 4 else .ok (id, c, v.2.1)
def decL' : List Elt → Except Int Ext
  | [] => .error 3
  | a :: r => if a.1 ≠ 6 then .error 5 else
    match decP a.2.1 with
    | none => .error 11
    | some id => match boolF r with
      | .error k => .error k
      | .ok (c, r') => decV id c r'
def decX (e : Elt) : Except Int Ext :=
  if e.1 ≠ 48 then .error 5 else
  match listF e.2.1 with
  | .error k => .error k
  | .ok l => decL' l
def decXs : List Elt → Except Int (List Ext)
  | [] => .ok []
  | e :: r => match decX e with
    | .error k => .error k
    | .ok x => match decXs r with
      | .error k => .error k
      | .ok l => .ok (x :: l)
def decE (b : List UInt8) : Except Int (List Ext) :=
  match oneF b with
  | .error k => .error k
  | .ok e => if e.1 ≠ 48 then .error 5 else
    match listF e.2.1 with
    | .error k => .error k
    | .ok l => match decXs l with
      | .error k => .error k
      | .ok xs => if chkE xs = 0 then .ok xs else .error (chkE xs)

/-- what encodes to a text is what it decodes to -/
theorem dec_enc {s c : List UInt8} (h : encP s = some c) : decP c = some s := by
  unfold encP at h
  obtain ⟨l, h1, rfl⟩ := Option.map_eq_some_iff.1 h
  have hs := arcsP_show h1
  subst hs
  exact decP_enc (arcsP_some h1)
theorem encP_valid {s : List UInt8} (h : validB s = true) : ∃ c, encP s = some c ∧ c.length ≤ 1000 := by
  unfold validB at h
  cases ha : arcsP s with
  | none => rw [ha] at h; cases h
  | some l =>
    refine ⟨encL l, by rw [encP, ha]; rfl, ?_⟩
    obtain ⟨h1, h12, h3, h4⟩ := arcsP_some ha
    have hr := rootB_le h4
    have hf : ∀ r : List Nat, (∀ n ∈ r, n ≤ 2147483647) → (r.flatMap putL).length ≤ 6 * r.length := by
      intro r
      induction r with
      | nil => intro _; simp
      | cons n r ih =>
        intro h
        have := ih (fun m hm => h m (by simp [hm]))
        have := putL_len n (by have := h n (by simp); omega)
        rw [List.flatMap_cons, List.length_append, List.length_cons]
        omega
    have hb : l.getD 1 0 ≤ 2147483647 := by
      rw [List.getD, List.getElem?_eq_getElem (show 1 < l.length by omega)]
      exact h3 _ (List.getElem_mem _)
    have := hf (l.drop 2) (fun n hn => h3 n (List.mem_of_mem_drop hn))
    have := putL_len (40 * l.getD 0 0 + l.getD 1 0) (by omega)
    rw [encL, List.length_append]
    rw [List.length_drop] at *
    omega
theorem chkX_mem : ∀ (l : List Ext) (pre : List (List UInt8)), chkX pre l = 0 → ∀ x ∈ l, validB x.1 = true
  | [], _, _ => fun x hx => by cases hx
  | x :: r, pre, h => by
    rw [chkX] at h
    by_cases h1 : validB x.1 = false
    · rw [if_pos h1] at h; cases h
    rw [if_neg h1] at h
    by_cases h2 : x.1 ∈ pre
    · rw [if_pos h2] at h; cases h
    rw [if_neg h2] at h
    by_cases h3 : checkF x.2.2 ≠ 0
    · rw [if_pos h3] at h; exact absurd h h3
    rw [if_neg h3] at h
    intro y hy
    rcases List.mem_cons.1 hy with rfl | hy
    · simpa using h1
    · exact chkX_mem r _ h y hy
theorem chkE_mem {l : List Ext} (h : chkE l = 0) : ∀ x ∈ l, validB x.1 = true := by
  unfold chkE at h
  split at h
  · cases h
  · split at h
    · cases h
    · exact chkX_mem l [] h
/-- the elements of an extension's body -/
theorem list_body {x : Ext} (hv : validB x.1 = true) (hl : x.2.2.length ≤ 131072) :
    ∃ c, encP x.1 = some c ∧ listF (bodyX x (wrapW 4 x.2.2)) = .ok ((6, c, wrapW 6 c) :: ((if x.2.1 then [(1, [255], wrapW 1 [255])] else []) ++ [(4, x.2.2, wrapW 4 x.2.2)])) := by
  obtain ⟨c, hc, hcl⟩ := encP_valid hv
  refine ⟨c, hc, ?_⟩
  have h4 := list_wrap 4 (by omega) (by omega) x.2.2 [] hl
  rw [List.append_nil, listF_nil] at h4
  have h1 : listF (critB x.2.1 ++ wrapW 4 x.2.2) = .ok ((if x.2.1 then [(1, [255], wrapW 1 [255])] else []) ++ [(4, x.2.2, wrapW 4 x.2.2)]) := by
    unfold critB
    cases x.2.1
    · simpa using h4
    · have := list_wrap 1 (by omega) (by omega) [255] (wrapW 4 x.2.2) (by simp)
      rw [h4] at this
      simpa using this
  rw [bodyX, idW, hc, Option.getD_some, list_wrap 6 (by omega) (by omega) c _ (by omega), h1]
theorem dec_encX {x : Ext} {b : List UInt8} (hv : validB x.1 = true) (h : encX x = some b) (r : List UInt8) :
    ∃ c, readF (b ++ r) = .ok ((48, c, b), r) ∧ decX (48, c, b) = .ok x := by
  unfold encX at h
  obtain ⟨v, h1, h2⟩ := Option.bind_eq_some_iff.1 h
  obtain ⟨hl, rfl⟩ := wrapO_some h1
  obtain ⟨hb, rfl⟩ := wrapO_some h2
  obtain ⟨c, hc, hL⟩ := list_body hv hl
  refine ⟨_, read_wrap 48 (by omega) (by omega) _ r hb, ?_⟩
  rw [decX, if_neg (by simp), hL]
  show decL' _ = _
  rw [decL', if_neg (by simp), dec_enc hc]
  obtain ⟨i, k, w⟩ := x
  cases k
  · simp [boolF, decV]
  · simp [boolF, decV]
theorem dec_encXs : ∀ (l : List Ext) (b : List UInt8), (∀ x ∈ l, validB x.1 = true) → encXs l = some b → ∃ L, listF b = .ok L ∧ decXs L = .ok l
  | [], b, _, h => by cases h; exact ⟨[], rfl, rfl⟩
  | x :: r, b, hv, h => by
    rw [encXs] at h
    obtain ⟨e, h1, h2⟩ := Option.bind_eq_some_iff.1 h
    obtain ⟨q, h3, rfl⟩ := Option.map_eq_some_iff.1 h2
    obtain ⟨L, hL, hD⟩ := dec_encXs r q (fun y hy => hv y (by simp [hy])) h3
    obtain ⟨c, hr, hd⟩ := dec_encX (hv x (by simp)) h1 q
    refine ⟨_, listF_cons hr |>.trans (by rw [hL]), ?_⟩
    rw [decXs, hd, hD]
/-- Decode inverts Encode -/
theorem decE_enc {l : List Ext} {b : List UInt8} (h : encE l = (b, 0)) : decE b = .ok l ∧ chkE l = 0 := by
  unfold encE at h
  by_cases hc : chkE l = 0
  · rw [if_pos hc] at h
    cases hx : (encXs l).bind (wrapO 48) with
    | none => rw [hx] at h; simp at h
    | some b' =>
      rw [hx] at h
      simp only [Prod.mk.injEq, and_true] at h
      subst h
      obtain ⟨s, h1, h2⟩ := Option.bind_eq_some_iff.1 hx
      obtain ⟨hb, rfl⟩ := wrapO_some h2
      obtain ⟨L, hL, hD⟩ := dec_encXs l s (chkE_mem hc) h1
      refine ⟨?_, hc⟩
      rw [decE, one_wrap 48 (by omega) (by omega) s hb]
      simp only
      rw [if_neg (by simp), hL]
      simp only
      rw [hD]
      simp only
      rw [if_pos hc]
  · rw [if_neg hc] at h
    simp only [Prod.mk.injEq] at h
    exact absurd h.2 hc
/-- what Decode accepts, an extension at a time -/
theorem enc_decX {e : Elt} {x : Ext} (he : e.1 < 256 ∧ e.1 % 32 ≠ 31 ∧ e.2.1.length ≤ 131072 ∧ e.2.2 = wrapW e.1 e.2.1) (h : decX e = .ok x) : encX x = some e.2.2 := by
  obtain ⟨-, -, hl, hw⟩ := he
  unfold decX at h
  by_cases h48 : e.1 ≠ 48
  · rw [if_pos h48] at h; cases h
  rw [if_neg h48] at h
  have h48' : e.1 = 48 := by omega
  cases hL : listF e.2.1 with
  | error k => rw [hL] at h; cases h
  | ok L =>
    rw [hL] at h
    have hraw := list_raw _ _ _ (Nat.le_refl _) hL
    have hmem := list_is_wrap _ _ _ (Nat.le_refl _) hL
    simp only at h
    match L, h with
    | [], h => cases h
    | a :: r, h =>
      rw [decL'] at h
      by_cases ha : a.1 ≠ 6
      · rw [if_pos ha] at h; cases h
      rw [if_neg ha] at h
      have ha' : a.1 = 6 := by omega
      cases hid : decP a.2.1 with
      | none => rw [hid] at h; cases h
      | some id =>
        rw [hid] at h
        simp only at h
        obtain ⟨_, henc⟩ := enc_decP hid
        have haw := (hmem a (by simp)).2.2.2
        cases hb : boolF r with
        | error k => rw [hb] at h; cases h
        | ok p =>
          obtain ⟨c, r'⟩ := p
          rw [hb] at h
          simp only at h
          match r', h with
          | [], h => cases h
          | v :: q, h =>
            rw [decV] at h
            by_cases hv : v.1 ≠ 4
            · rw [if_pos hv] at h; cases h
            rw [if_neg hv] at h
            have hv' : v.1 = 4 := by omega
            by_cases hq : q ≠ []
            · rw [if_pos hq] at h; cases h
            rw [if_neg hq] at h
            have hq' : q = [] := by simpa using hq
            subst hq'
            cases h
            have hr : r.flatMap (·.2.2) = critB c ++ v.2.2 ∧ v ∈ r := by
              match r, hb with
              | [], hb => cases hb
              | b :: r2, hb =>
                rw [boolF] at hb
                by_cases hb1 : b.1 = 1
                · rw [if_pos hb1] at hb
                  by_cases hb2 : b.2.1 = [255]
                  · rw [if_pos hb2] at hb
                    simp only [Except.ok.injEq, Prod.mk.injEq] at hb
                    obtain ⟨rfl, rfl⟩ := hb
                    have hbw := (hmem b (by simp)).2.2.2
                    refine ⟨?_, by simp⟩
                    simp only [List.flatMap_cons, List.flatMap_nil, List.append_nil]
                    rw [hbw, hb1, hb2]; rfl
                  · rw [if_neg hb2] at hb; cases hb
                · rw [if_neg hb1] at hb
                  simp only [Except.ok.injEq, Prod.mk.injEq, List.cons.injEq] at hb
                  obtain ⟨rfl, rfl, rfl⟩ := hb
                  exact ⟨by simp [critB], by simp⟩
            have hvm := hmem v (by simp [hr.2])
            have hcont : e.2.1 = bodyX (id, c, v.2.1) (wrapW 4 v.2.1) := by
              rw [hraw, List.flatMap_cons, hr.1, haw, ha', hvm.2.2.2, hv', bodyX, idW, henc]
              rfl
            rw [encX, wrapO_of hvm.2.2.1, Option.bind_some, ← hcont, wrapO_of hl, hw, h48']
theorem enc_decXs : ∀ (L : List Elt) (l : List Ext), (∀ e ∈ L, e.1 < 256 ∧ e.1 % 32 ≠ 31 ∧ e.2.1.length ≤ 131072 ∧ e.2.2 = wrapW e.1 e.2.1) → decXs L = .ok l → encXs l = some (L.flatMap (·.2.2))
  | [], l, _, h => by cases h; rfl
  | e :: r, l, he, h => by
    rw [decXs] at h
    cases hx : decX e with
    | error k => rw [hx] at h; cases h
    | ok x =>
      rw [hx] at h
      simp only at h
      cases hr : decXs r with
      | error k => rw [hr] at h; cases h
      | ok l' =>
        rw [hr] at h
        cases h
        rw [encXs, enc_decX (he e (by simp)) hx, Option.bind_some, enc_decXs r l' (fun y hy => he y (by simp [hy])) hr]
        simp
/-- what Decode accepts is what Encode writes -/
theorem enc_decE {b : List UInt8} {l : List Ext} (h : decE b = .ok l) : encE l = (b, 0) := by
  unfold decE at h
  cases h1 : oneF b with
  | error k => rw [h1] at h; cases h
  | ok e =>
    rw [h1] at h
    simp only at h
    obtain ⟨_, _, hl, _, hb⟩ := one_is_wrap h1
    by_cases h48 : e.1 ≠ 48
    · rw [if_pos h48] at h; cases h
    rw [if_neg h48] at h
    have h48' : e.1 = 48 := by omega
    cases hL : listF e.2.1 with
    | error k => rw [hL] at h; cases h
    | ok L =>
      rw [hL] at h
      simp only at h
      have hraw := list_raw _ _ _ (Nat.le_refl _) hL
      have hmem := list_is_wrap _ _ _ (Nat.le_refl _) hL
      cases hd : decXs L with
      | error k => rw [hd] at h; cases h
      | ok xs =>
        rw [hd] at h
        simp only at h
        by_cases hc : chkE xs = 0
        · rw [if_pos hc] at h
          cases h
          rw [encE, if_pos hc, enc_decXs L l hmem hd, Option.bind_some, ← hraw, wrapO_of hl]
          simp only
          rw [hb, h48']
        · rw [if_neg hc] at h; cases h
/-- small extensions fit -/
theorem encX_small {x : Ext} (hv : validB x.1 = true) (hl : x.2.2.length ≤ 1000) : ∃ b, encX x = some b ∧ b.length ≤ 2100 := by
  obtain ⟨c, hc, hcl⟩ := encP_valid hv
  have e4 : (wrapW 4 x.2.2).length ≤ 1005 := by rw [wrapW_len]; have := lenB_le x.2.2.length; omega
  have e6 : (idW x.1).length ≤ 1005 := by rw [idW, hc, Option.getD_some, wrapW_len]; have := lenB_le c.length; omega
  have ec : (critB x.2.1).length ≤ 10 := by
    unfold critB
    split
    · rw [wrapW_len]; have := lenB_le [(255 : UInt8)].length; simp at *; omega
    · simp
  have eb : (bodyX x (wrapW 4 x.2.2)).length ≤ 2020 := by rw [bodyX, List.length_append, List.length_append]; omega
  refine ⟨wrapW 48 (bodyX x (wrapW 4 x.2.2)), ?_, ?_⟩
  · rw [encX, wrapO_of (by omega), Option.bind_some, wrapO_of (by omega)]
  · rw [wrapW_len]; have := lenB_le (bodyX x (wrapW 4 x.2.2)).length; omega
theorem encXs_small : ∀ l : List Ext, (∀ x ∈ l, validB x.1 = true ∧ x.2.2.length ≤ 1000) → ∃ b, encXs l = some b ∧ b.length ≤ 2100 * l.length
  | [], _ => ⟨[], rfl, by simp⟩
  | x :: r, h => by
    obtain ⟨e, h1, h2⟩ := encX_small (h x (by simp)).1 (h x (by simp)).2
    obtain ⟨q, h3, h4⟩ := encXs_small r (fun y hy => h y (by simp [hy]))
    refine ⟨e ++ q, by rw [encXs, h1, Option.bind_some, h3]; rfl, ?_⟩
    rw [List.length_append, List.length_cons]; omega
theorem encE_small {l : List Ext} (h : ∀ x ∈ l, x.2.2.length ≤ 1000) : (encE l).2 = chkE l ∧ (chkE l ≠ 0 → (encE l).1 = []) := by
  by_cases hc : chkE l = 0
  · have hv := chkE_mem hc
    obtain ⟨b, h1, h2⟩ := encXs_small l (fun x hx => ⟨hv x hx, h x hx⟩)
    have hlen : l.length ≤ 24 := by
      unfold chkE at hc
      split at hc
      · cases hc
      · split at hc
        · cases hc
        · omega
    refine ⟨?_, fun h => absurd hc h⟩
    rw [encE, if_pos hc, h1, Option.bind_some, wrapO_of (by omega), hc]
  · exact ⟨by rw [encE, if_neg hc], fun _ => by rw [encE, if_neg hc]⟩
theorem encX_len {x : Ext} {b : List UInt8} (h : encX x = some b) : b.length ≤ 131077 := by
  unfold encX at h
  obtain ⟨v, h1, h2⟩ := Option.bind_eq_some_iff.1 h
  obtain ⟨hb, rfl⟩ := wrapO_some h2
  rw [wrapW_len]; have := lenB_le (bodyX x v).length; omega
end Go.Proofs.YtbafpgdmnkkclaaDoor
