/- The plain law behind SubtreeSame: a reduced state permits what the state permits. -/
import Derived.Test.YtepibepgfackkaaDoorGnP
import Derived.Test.YtepibepgfackkaaDoorGnD
namespace Go.Proofs.YtepibepgfackkaaDoor
open Go.RowKit

def addG (l : List Gen) (g : Gen) : List Gen := if l.any (fun x => sameG x g) then l else l ++ [g]
def posK (l : List Int) (k : Int) : Nat := (l.takeWhile (fun x => decide (x < k))).length
def insK (l : List Int) (k : Int) : List Int := if posK l k = l.length ∨ l.getD (posK l k) 0 ≠ k then l.take (posK l k) ++ k :: l.drop (posK l k) else l
def limStep (l : List Int) (g : Gen) : List Int := if knownK g.1 then insK l g.1 else l
def perStep (st : List Sub) (k : Int) (l : List Gen) (g : Gen) : List Gen := if (g.1 == k && allowsG st g) = true then addG l g else l
def redLim (st : List Sub) : List Int := st.foldl (fun l s => s.1.foldl limStep l) []
def redEx (st : List Sub) : List Gen := st.foldl (fun l s => s.2.foldl addG l) []
def redPer (st : List Sub) (lim : List Int) : List Gen := lim.foldl (fun l k => st.foldl (fun l s => s.1.foldl (perStep st k) l) l) []
def permitsR (lim : List Int) (per ex : List Gen) (g : Gen) : Bool := !(insideG g ex) && (if lim.any (fun k => k == g.1) then insideG g per else true)

/-! ### bases: an order in which what lies over one name is a chain -/
theorem withinG_kind {g b : Gen} (h : withinG g b = true) : g.1 = b.1 := by
  unfold withinG at h
  by_cases hk : g.1 = b.1
  · exact hk
  · rw [if_pos hk] at h; cases h
theorem tm_trans : ∀ g ∈ gMail ++ bMail, ∀ b ∈ bMail, ∀ c ∈ bMail, mwB g b = true → mwB b c = true → mwB g c = true := by decide +kernel
theorem td_trans : ∀ g ∈ gDns ++ bDns, ∀ b ∈ bDns, ∀ c ∈ bDns, dnsWB g b = true → dnsWB b c = true → dnsWB g c = true := by decide +kernel
theorem ta_trans : ∀ g ∈ gAddr ++ bAddr, ∀ b ∈ bAddr, ∀ c ∈ bAddr, awB g b = true → awB b c = true → awB g c = true := by decide +kernel
theorem tm_lam : ∀ g ∈ gMail, ∀ b ∈ bMail, ∀ c ∈ bMail, mwB g b = true → mwB g c = true → mwB b c = true ∨ mwB c b = true := by decide +kernel
theorem td_lam : ∀ g ∈ gDns, ∀ b ∈ bDns, ∀ c ∈ bDns, dnsWB g b = true → dnsWB g c = true → dnsWB b c = true ∨ dnsWB c b = true := by decide +kernel
theorem ta_lam : ∀ g ∈ gAddr, ∀ b ∈ bAddr, ∀ c ∈ bAddr, awB g b = true → awB g c = true → awB b c = true ∨ awB c b = true := by decide +kernel
theorem tm_refl : ∀ b ∈ bMail, mwB b b = true := by decide +kernel
theorem td_refl : ∀ b ∈ bDns, dnsWB b b = true := by decide +kernel
theorem ta_refl : ∀ b ∈ bAddr, awB b b = true := by decide +kernel
theorem tm_same : ∀ g ∈ gMail, ∀ b ∈ bMail, ∀ c ∈ bMail, (if (mailB b && mailB c) = true then mmB b c else eqF b c) = true → mwB g b = mwB g c := by decide +kernel
theorem td_same : ∀ g ∈ gDns, ∀ b ∈ bDns, ∀ c ∈ bDns, eqF b c = true → dnsWB g b = dnsWB g c := by decide +kernel
theorem good_form {g : Gen} (h : GoodGen g ∨ GoodBase g) : (∃ t ∈ gMail ++ bMail, g = (1, t, [])) ∨ (∃ t ∈ gDns ++ bDns, g = (2, t, [])) ∨ (∃ t ∈ gAddr ++ bAddr, g = (7, t, [])) ∨ ∃ n, g = (4, [], n) := by
  rcases h with (⟨t, ht, h⟩ | ⟨t, ht, h⟩ | ⟨t, ht, h⟩ | ⟨n, _, h⟩) | (⟨t, ht, h⟩ | ⟨t, ht, h⟩ | ⟨t, ht, h⟩ | ⟨n, _, h⟩)
  · exact .inl ⟨t, List.mem_append_left _ ht, h⟩
  · exact .inr (.inl ⟨t, List.mem_append_left _ ht, h⟩)
  · exact .inr (.inr (.inl ⟨t, List.mem_append_left _ ht, h⟩))
  · exact .inr (.inr (.inr ⟨n, h⟩))
  · exact .inl ⟨t, List.mem_append_right _ ht, h⟩
  · exact .inr (.inl ⟨t, List.mem_append_right _ ht, h⟩)
  · exact .inr (.inr (.inl ⟨t, List.mem_append_right _ ht, h⟩))
  · exact .inr (.inr (.inr ⟨n, h⟩))
theorem NPre.lam : ∀ {n a b : Name}, NPre n a → NPre n b → NPre a b ∨ NPre b a
  | _, _, [], _, _ => .inl (by simp [NPre])
  | _, [], _ :: _, _, _ => .inr (by simp [NPre])
  | [], _ :: _, _ :: _, h, _ => h.elim
  | _ :: _, _ :: _, _ :: _, h, h2 => by
    rcases NPre.lam h.2 h2.2 with h3 | h3
    · exact .inl ⟨sameR_trans (sameR_symm h.1) h2.1, h3⟩
    · exact .inr ⟨sameR_trans (sameR_symm h2.1) h.1, h3⟩
theorem base_trans {g b c : Gen} (hg : GoodGen g ∨ GoodBase g) (hb : GoodBase b) (hc : GoodBase c) (h1 : withinG g b = true) (h2 : withinG b c = true) : withinG g c = true := by
  have hk1 := withinG_kind h1
  have hk2 := withinG_kind h2
  rcases good_form hg with ⟨tg, hgt, rfl⟩ | ⟨tg, hgt, rfl⟩ | ⟨tg, hgt, rfl⟩ | ⟨tg, rfl⟩ <;>
    rcases hb with ⟨tb, hb, rfl⟩ | ⟨tb, hb, rfl⟩ | ⟨tb, hb, rfl⟩ | ⟨tb, hb, rfl⟩ <;> (first | (exfalso; revert hk1; simp; done) | skip) <;>
    rcases hc with ⟨tc, hc, rfl⟩ | ⟨tc, hc, rfl⟩ | ⟨tc, hc, rfl⟩ | ⟨tc, hc, rfl⟩ <;> (first | (exfalso; revert hk2; simp; done) | skip)
  · exact tm_trans tg hgt tb hb tc hc h1 h2
  · exact td_trans tg hgt tb hb tc hc h1 h2
  · exact ta_trans tg hgt tb hb tc hc h1 h2
  · exact (withinN_iff _ _).2 (((withinN_iff _ _).1 h1).trans ((withinN_iff _ _).1 h2))
theorem base_lam {g b c : Gen} (hg : GoodGen g) (hb : GoodBase b) (hc : GoodBase c) (h1 : withinG g b = true) (h2 : withinG g c = true) : withinG b c = true ∨ withinG c b = true := by
  have hk1 := withinG_kind h1
  have hk2 := withinG_kind h2
  rcases hg with ⟨tg, hg, rfl⟩ | ⟨tg, hg, rfl⟩ | ⟨tg, hg, rfl⟩ | ⟨tg, hg, rfl⟩ <;>
    rcases hb with ⟨tb, hb, rfl⟩ | ⟨tb, hb, rfl⟩ | ⟨tb, hb, rfl⟩ | ⟨tb, hb, rfl⟩ <;> (first | (exfalso; revert hk1; simp; done) | skip) <;>
    rcases hc with ⟨tc, hc, rfl⟩ | ⟨tc, hc, rfl⟩ | ⟨tc, hc, rfl⟩ | ⟨tc, hc, rfl⟩ <;> (first | (exfalso; revert hk2; simp; done) | skip)
  · exact tm_lam tg hg tb hb tc hc h1 h2
  · exact td_lam tg hg tb hb tc hc h1 h2
  · exact ta_lam tg hg tb hb tc hc h1 h2
  · rcases NPre.lam ((withinN_iff _ _).1 h1) ((withinN_iff _ _).1 h2) with h | h
    · exact .inl ((withinN_iff _ _).2 h)
    · exact .inr ((withinN_iff _ _).2 h)
theorem base_refl {b : Gen} (hb : GoodBase b) : withinG b b = true := by
  rcases hb with ⟨tb, hb, rfl⟩ | ⟨tb, hb, rfl⟩ | ⟨tb, hb, rfl⟩ | ⟨tb, hb, rfl⟩
  · exact tm_refl tb hb
  · exact td_refl tb hb
  · exact ta_refl tb hb
  · exact (withinN_iff _ _).2 (NSame.refl tb).pre
theorem withinG_off {g b : Gen} (h : g.1 ≠ b.1) : withinG g b = false := by unfold withinG; rw [if_pos h]
theorem sameG_kind {g b : Gen} (h : sameG g b = true) : g.1 = b.1 := by
  unfold sameG at h
  by_cases hk : g.1 = b.1
  · exact hk
  · rw [if_pos hk] at h; cases h
theorem base_same {g x y : Gen} (hg : GoodGen g) (hx : GoodBase x) (hy : GoodBase y) (h : sameG x y = true) : withinG g x = withinG g y := by
  have hk := sameG_kind h
  by_cases hgx : g.1 = x.1
  · rcases hg with ⟨tg, hg, rfl⟩ | ⟨tg, hg, rfl⟩ | ⟨tg, hg, rfl⟩ | ⟨tg, hg, rfl⟩ <;>
      rcases hx with ⟨tb, hb, rfl⟩ | ⟨tb, hb, rfl⟩ | ⟨tb, hb, rfl⟩ | ⟨tb, hb, rfl⟩ <;> (first | (exfalso; revert hgx; simp; done) | skip) <;>
      rcases hy with ⟨tc, hc, rfl⟩ | ⟨tc, hc, rfl⟩ | ⟨tc, hc, rfl⟩ | ⟨tc, hc, rfl⟩ <;> (first | (exfalso; revert hk; simp; done) | skip)
    · exact tm_same tg hg tb hb tc hc h
    · exact td_same tg hg tb hb tc hc h
    · have : tb = tc := by
        have h' : (tb == tc) = true := h
        simpa using h'
      rw [this]
    · have h' : NSame tb tc := (matchN_iff _ _).1 h
      show withinN tg tb = withinN tg tc
      rw [Bool.eq_iff_iff, withinN_iff, withinN_iff]
      exact ⟨fun h2 => h2.of_same h', fun h2 => h2.of_same h'.symm⟩
  · rw [withinG_off hgx, withinG_off (by rw [← hk]; exact hgx)]

/-! ### the lists -/
def GoodBs (l : List Gen) : Prop := ∀ b ∈ l, GoodBase b
theorem addG_good {l : List Gen} {b : Gen} (hl : GoodBs l) (hb : GoodBase b) : GoodBs (addG l b) := by
  unfold addG
  split
  · exact hl
  · intro x hx
    rcases List.mem_append.1 hx with hx | hx
    · exact hl x hx
    · simp at hx; subst hx; exact hb
theorem addG_in {l : List Gen} {b g : Gen} (hg : GoodGen g) (hl : GoodBs l) (hb : GoodBase b) : insideG g (addG l b) = (insideG g l || withinG g b) := by
  unfold addG
  split
  · rename_i h
    obtain ⟨x, hx, hs⟩ := List.any_eq_true.1 h
    by_cases hw : withinG g b = true
    · have : insideG g l = true := List.any_eq_true.2 ⟨x, hx, (base_same hg (hl x hx) hb hs).trans hw⟩
      rw [this]; rfl
    · have hw : withinG g b = false := by simpa using hw
      rw [hw, Bool.or_false]
  · unfold insideG
    rw [List.any_append]
    simp
theorem exFold {g : Gen} (hg : GoodGen g) : ∀ (l acc : List Gen), GoodBs acc → GoodBs l → GoodBs (l.foldl addG acc) ∧ insideG g (l.foldl addG acc) = (insideG g acc || insideG g l)
  | [], acc, ha, _ => ⟨ha, by simp [insideG]⟩
  | b :: l, acc, ha, hl => by
    have hb := hl b (by simp)
    obtain ⟨h1, h2⟩ := exFold hg l (addG acc b) (addG_good ha hb) (fun x hx => hl x (by simp [hx]))
    refine ⟨h1, ?_⟩
    show insideG g (l.foldl addG (addG acc b)) = _
    rw [h2, addG_in hg ha hb, Bool.or_assoc]
    rfl
theorem exAll {g : Gen} (hg : GoodGen g) : ∀ (st : List Sub) (acc : List Gen), GoodBs acc → (∀ s ∈ st, GoodBs s.2) →
    GoodBs (st.foldl (fun l s => s.2.foldl addG l) acc) ∧ insideG g (st.foldl (fun l s => s.2.foldl addG l) acc) = (insideG g acc || st.any fun s => insideG g s.2)
  | [], acc, ha, _ => ⟨ha, by simp⟩
  | s :: st, acc, ha, hl => by
    obtain ⟨h1, h2⟩ := exFold hg s.2 acc ha (hl s (by simp))
    obtain ⟨h3, h4⟩ := exAll hg st (s.2.foldl addG acc) h1 (fun x hx => hl x (by simp [hx]))
    refine ⟨h3, ?_⟩
    show insideG g (st.foldl (fun l s => s.2.foldl addG l) (s.2.foldl addG acc)) = _
    rw [h4, h2, Bool.or_assoc]
    rfl
def perOk (st : List Sub) (k : Int) (g b : Gen) : Bool := (b.1 == k && allowsG st b) && withinG g b
theorem perStep_both {st : List Sub} {k : Int} {l : List Gen} {b g : Gen} (hg : GoodGen g) (hl : GoodBs l) (hb : GoodBase b) : GoodBs (perStep st k l b) ∧ insideG g (perStep st k l b) = (insideG g l || perOk st k g b) := by
  unfold perStep perOk
  split
  · rename_i h
    exact ⟨addG_good hl hb, by rw [addG_in hg hl hb, h, Bool.true_and]⟩
  · rename_i h
    have h : (b.1 == k && allowsG st b) = false := by simpa using h
    exact ⟨hl, by rw [h, Bool.false_and, Bool.or_false]⟩
theorem perFold {st : List Sub} {k : Int} {g : Gen} (hg : GoodGen g) : ∀ (l acc : List Gen), GoodBs acc → GoodBs l → GoodBs (l.foldl (perStep st k) acc) ∧ insideG g (l.foldl (perStep st k) acc) = (insideG g acc || l.any (perOk st k g))
  | [], acc, ha, _ => ⟨ha, by simp⟩
  | b :: l, acc, ha, hl => by
    have hb := hl b (by simp)
    obtain ⟨h0, h0'⟩ := perStep_both (st := st) (k := k) hg ha hb
    obtain ⟨h1, h2⟩ := perFold hg l (perStep st k acc b) h0 (fun x hx => hl x (by simp [hx]))
    refine ⟨h1, ?_⟩
    show insideG g (l.foldl (perStep st k) (perStep st k acc b)) = _
    rw [h2, h0', Bool.or_assoc]
    rfl
theorem perAll {st : List Sub} {k : Int} {g : Gen} (hg : GoodGen g) : ∀ (ss : List Sub) (acc : List Gen), GoodBs acc → (∀ s ∈ ss, GoodBs s.1) →
    GoodBs (ss.foldl (fun l s => s.1.foldl (perStep st k) l) acc) ∧ insideG g (ss.foldl (fun l s => s.1.foldl (perStep st k) l) acc) = (insideG g acc || ss.any fun s => s.1.any (perOk st k g))
  | [], acc, ha, _ => ⟨ha, by simp⟩
  | s :: ss, acc, ha, hl => by
    obtain ⟨h1, h2⟩ := perFold (st := st) (k := k) hg s.1 acc ha (hl s (by simp))
    obtain ⟨h3, h4⟩ := perAll hg ss (s.1.foldl (perStep st k) acc) h1 (fun x hx => hl x (by simp [hx]))
    refine ⟨h3, ?_⟩
    show insideG g (ss.foldl (fun l s => s.1.foldl (perStep st k) l) (s.1.foldl (perStep st k) acc)) = _
    rw [h4, h2, Bool.or_assoc]
    rfl
theorem perLim {st : List Sub} {g : Gen} (hg : GoodGen g) (hst : ∀ s ∈ st, GoodBs s.1) : ∀ (lim : List Int) (acc : List Gen), GoodBs acc →
    GoodBs (lim.foldl (fun l k => st.foldl (fun l s => s.1.foldl (perStep st k) l) l) acc) ∧ insideG g (lim.foldl (fun l k => st.foldl (fun l s => s.1.foldl (perStep st k) l) l) acc) = (insideG g acc || lim.any fun k => st.any fun s => s.1.any (perOk st k g))
  | [], acc, ha => ⟨ha, by simp⟩
  | k :: lim, acc, ha => by
    obtain ⟨h1, h2⟩ := perAll (st := st) (k := k) hg st acc ha hst
    obtain ⟨h3, h4⟩ := perLim hg hst lim _ h1
    refine ⟨h3, ?_⟩
    show insideG g (lim.foldl (fun l k => st.foldl (fun l s => s.1.foldl (perStep st k) l) l) (st.foldl (fun l s => s.1.foldl (perStep st k) l) acc)) = _
    rw [h4, h2, Bool.or_assoc]
    rfl
theorem posK_le (l : List Int) (k : Int) : posK l k ≤ l.length := (List.takeWhile_prefix _).length_le
theorem mem_insK {l : List Int} {k x : Int} : x ∈ insK l k ↔ x = k ∨ x ∈ l := by
  have hl : x ∈ l ↔ x ∈ l.take (posK l k) ∨ x ∈ l.drop (posK l k) := by rw [← List.mem_append, List.take_append_drop]
  unfold insK
  split
  · rw [List.mem_append, List.mem_cons, hl]
    constructor
    · rintro (h | h | h)
      · exact .inr (.inl h)
      · exact .inl h
      · exact .inr (.inr h)
    · rintro (h | h | h)
      · exact .inr (.inl h)
      · exact .inl h
      · exact .inr (.inr h)
  · rename_i h
    rw [not_or] at h
    have hp := posK_le l k
    have hlt : posK l k < l.length := by omega
    have hk : k ∈ l := by
      have h2 : l.getD (posK l k) 0 = k := by simpa using h.2
      rw [List.getD_eq_getElem?_getD, List.getElem?_eq_getElem hlt] at h2
      have h3 : l[posK l k] = k := h2
      rw [← h3]
      exact List.getElem_mem hlt
    constructor
    · exact .inr
    · rintro (rfl | h)
      · exact hk
      · exact h
theorem limFold {x : Int} : ∀ (l : List Gen) (acc : List Int), x ∈ l.foldl limStep acc ↔ x ∈ acc ∨ (knownK x = true ∧ ∃ b ∈ l, b.1 = x)
  | [], acc => by simp
  | b :: l, acc => by
    show x ∈ l.foldl limStep (limStep acc b) ↔ _
    rw [limFold l]
    unfold limStep
    by_cases hk : knownK b.1 = true
    · rw [if_pos hk, mem_insK]
      constructor
      · rintro ((h | h) | ⟨h, c, hc, hcx⟩)
        · exact .inr ⟨h ▸ hk, b, by simp, h.symm⟩
        · exact .inl h
        · exact .inr ⟨h, c, by simp [hc], hcx⟩
      · rintro (h | ⟨h, c, hc, hcx⟩)
        · exact .inl (.inr h)
        · rcases List.mem_cons.1 hc with rfl | hc
          · exact .inl (.inl hcx.symm)
          · exact .inr ⟨h, c, hc, hcx⟩
    · rw [if_neg hk]
      constructor
      · rintro (h | ⟨h, c, hc, hcx⟩)
        · exact .inl h
        · exact .inr ⟨h, c, by simp [hc], hcx⟩
      · rintro (h | ⟨h, c, hc, hcx⟩)
        · exact .inl h
        · rcases List.mem_cons.1 hc with rfl | hc
          · rw [hcx] at hk; exact absurd h hk
          · exact .inr ⟨h, c, hc, hcx⟩
theorem limAll {x : Int} : ∀ (st : List Sub) (acc : List Int), x ∈ st.foldl (fun l s => s.1.foldl limStep l) acc ↔ x ∈ acc ∨ (knownK x = true ∧ ∃ s ∈ st, ∃ b ∈ s.1, b.1 = x)
  | [], acc => by simp
  | s :: st, acc => by
    show x ∈ st.foldl (fun l s => s.1.foldl limStep l) (s.1.foldl limStep acc) ↔ _
    rw [limAll st, limFold]
    constructor
    · rintro ((h | ⟨h, hb⟩) | ⟨h, t, ht, hb⟩)
      · exact .inl h
      · exact .inr ⟨h, s, by simp, hb⟩
      · exact .inr ⟨h, t, by simp [ht], hb⟩
    · rintro (h | ⟨h, t, ht, hb⟩)
      · exact .inl (.inl h)
      · rcases List.mem_cons.1 ht with rfl | ht
        · exact .inl (.inr ⟨h, hb⟩)
        · exact .inr ⟨h, t, ht, hb⟩
theorem limits_iff (l : List Gen) (k : Int) : limitsG l k = true ↔ ∃ b ∈ l, b.1 = k := by simp [limitsG]
theorem inside_iff (g : Gen) (l : List Gen) : insideG g l = true ↔ ∃ b ∈ l, withinG g b = true := by simp [insideG]
theorem allow_iff (g : Gen) (s : Sub) : allowG g s = true ↔ (limitsG s.1 g.1 = true → insideG g s.1 = true) := by
  unfold allowG
  cases limitsG s.1 g.1 <;> simp
theorem allows_iff (st : List Sub) (g : Gen) : allowsG st g = true ↔ ∀ s ∈ st, limitsG s.1 g.1 = true → insideG g s.1 = true := by
  unfold allowsG
  rw [List.all_eq_true]
  exact ⟨fun h s hs => (allow_iff g s).1 (h s hs), fun h s hs => (allow_iff g s).2 (h s hs)⟩
/-- the least of the bases over a name that the constraints name -/
theorem least_base {g : Gen} (hg : GoodGen g) : ∀ (st : List Sub) (b : Gen), GoodBase b → withinG g b = true → (∀ s ∈ st, GoodBs s.1) → (∀ s ∈ st, limitsG s.1 g.1 = true → insideG g s.1 = true) →
    ∃ c, (c = b ∨ ∃ s ∈ st, c ∈ s.1) ∧ GoodBase c ∧ withinG g c = true ∧ withinG c b = true ∧ ∀ s ∈ st, limitsG s.1 g.1 = true → insideG c s.1 = true
  | [], b, hb, hw, _, _ => ⟨b, .inl rfl, hb, hw, base_refl hb, fun s hs => by cases hs⟩
  | s :: st, b, hb, hw, hst, hall => by
    obtain ⟨c, h1, h2, h3, h4, h5⟩ := least_base hg st b hb hw (fun x hx => hst x (by simp [hx])) (fun x hx => hall x (by simp [hx]))
    by_cases hl : limitsG s.1 g.1 = true
    · obtain ⟨d, hd, hwd⟩ := (inside_iff _ _).1 (hall s (by simp) hl)
      have hgd := hst s (by simp) d hd
      rcases base_lam hg h2 hgd h3 hwd with hcd | hdc
      · refine ⟨c, ?_, h2, h3, h4, fun x hx hxl => ?_⟩
        · rcases h1 with h1 | ⟨t, ht, htc⟩
          · exact .inl h1
          · exact .inr ⟨t, by simp [ht], htc⟩
        · rcases List.mem_cons.1 hx with rfl | hx
          · exact (inside_iff _ _).2 ⟨d, hd, hcd⟩
          · exact h5 x hx hxl
      · refine ⟨d, .inr ⟨s, by simp, hd⟩, hgd, hwd, base_trans (.inr hgd) h2 hb hdc h4, fun x hx hxl => ?_⟩
        rcases List.mem_cons.1 hx with rfl | hx
        · exact (inside_iff _ _).2 ⟨d, hd, base_refl hgd⟩
        · obtain ⟨y, hy, hcy⟩ := (inside_iff _ _).1 (h5 x hx hxl)
          exact (inside_iff _ _).2 ⟨y, hy, base_trans (.inr hgd) h2 (hst x (by simp [hx]) y hy) hdc hcy⟩
    · refine ⟨c, ?_, h2, h3, h4, fun x hx hxl => ?_⟩
      · rcases h1 with h1 | ⟨t, ht, htc⟩
        · exact .inl h1
        · exact .inr ⟨t, by simp [ht], htc⟩
      · rcases List.mem_cons.1 hx with rfl | hx
        · exact absurd hxl hl
        · exact h5 x hx hxl
theorem good_known {g : Gen} (hg : GoodGen g) : knownK g.1 = true := by
  rcases hg with ⟨tg, hg, rfl⟩ | ⟨tg, hg, rfl⟩ | ⟨tg, hg, rfl⟩ | ⟨tg, hg, rfl⟩ <;> rfl
theorem permitsR_reduce {st : List Sub} (h1 : ∀ s ∈ st, GoodBs s.1) (h2 : ∀ s ∈ st, GoodBs s.2) {g : Gen} (hg : GoodGen g) : permitsR (redLim st) (redPer st (redLim st)) (redEx st) g = permitsG st g := by
  have hex : insideG g (redEx st) = st.any fun s => insideG g s.2 := by
    have := (exAll hg st [] (fun x hx => by cases hx) h2).2
    simpa [insideG, redEx] using this
  have hper : insideG g (redPer st (redLim st)) = (redLim st).any fun k => st.any fun s => s.1.any (perOk st k g) := by
    have := (perLim (st := st) hg h1 (redLim st) [] (fun x hx => by cases hx)).2
    simpa [insideG, redPer] using this
  have hlim : ∀ x, x ∈ redLim st ↔ knownK x = true ∧ ∃ s ∈ st, ∃ b ∈ s.1, b.1 = x := fun x => by
    have := limAll (x := x) st []
    simpa [redLim] using this
  unfold permitsR permitsG
  rw [hex]
  congr 1
  by_cases hany : (redLim st).any (fun k => k == g.1) = true
  · rw [if_pos hany, hper]
    obtain ⟨k, hk, hkg⟩ := List.any_eq_true.1 hany
    have hkg : k = g.1 := by simpa using hkg
    subst hkg
    obtain ⟨-, s0, hs0, b0, hb0, hb0k⟩ := (hlim _).1 hk
    rw [Bool.eq_iff_iff, allows_iff]
    constructor
    · intro h s hs hl
      obtain ⟨k', hk', h⟩ := List.any_eq_true.1 h
      obtain ⟨t, ht, h⟩ := List.any_eq_true.1 h
      obtain ⟨b, hb, h⟩ := List.any_eq_true.1 h
      unfold perOk at h
      simp only [Bool.and_eq_true, beq_iff_eq] at h
      obtain ⟨⟨_, hba⟩, hgb⟩ := h
      have hkb := withinG_kind hgb
      obtain ⟨c, hc, hbc⟩ := (inside_iff _ _).1 ((allows_iff _ _).1 hba s hs (by rw [← hkb]; exact hl))
      exact (inside_iff _ _).2 ⟨c, hc, base_trans (.inl hg) (h1 t ht b hb) (h1 s hs c hc) hgb hbc⟩
    · intro h
      obtain ⟨b, hb, hgb⟩ := (inside_iff _ _).1 (h s0 hs0 ((limits_iff _ _).2 ⟨b0, hb0, hb0k⟩))
      obtain ⟨c, hc1, hc2, hc3, hc4, hc5⟩ := least_base hg st b (h1 s0 hs0 b hb) hgb h1 h
      have hck := withinG_kind hc3
      have hin : ∃ s ∈ st, c ∈ s.1 := by
        rcases hc1 with rfl | hc1
        · exact ⟨s0, hs0, hb⟩
        · exact hc1
      obtain ⟨s, hs, hcs⟩ := hin
      refine List.any_eq_true.2 ⟨g.1, hk, List.any_eq_true.2 ⟨s, hs, List.any_eq_true.2 ⟨c, hcs, ?_⟩⟩⟩
      unfold perOk
      simp only [Bool.and_eq_true, beq_iff_eq]
      exact ⟨⟨hck.symm, (allows_iff _ _).2 fun x hx hxl => hc5 x hx (by rw [hck]; exact hxl)⟩, hc3⟩
  · rw [if_neg hany]
    symm
    rw [allows_iff]
    intro s hs hl
    obtain ⟨b, hb, hbk⟩ := (limits_iff _ _).1 hl
    exact absurd (List.any_eq_true.2 ⟨g.1, (hlim _).2 ⟨good_known hg, s, hs, b, hb, hbk⟩, by simp⟩) hany
end Go.Proofs.YtepibepgfackkaaDoor
