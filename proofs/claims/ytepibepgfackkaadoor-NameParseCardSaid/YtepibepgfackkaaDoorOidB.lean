/- The functions of package oid: the arcs of a text. -/
import Derived.Test.YtepibepgfackkaaDoorOidA
namespace Go.Proofs.YtepibepgfackkaaDoor
open Go.RowKit

theorem info_u8o : (Tryd.prog.info? 5).map (fun i => (i.zero, i.size, i.bytes)) = some (some (.int .u8 0), 1, 1) := by kernel_rfl
theorem info_int : (Tryd.prog.info? 3).map (fun i => (i.zero, i.size, i.bytes)) = some (some (.int .i64 0), 1, 8) := by kernel_rfl
def natC (n : Nat) : List Value := [.int .i64 (n : Int)]
abbrev RNat : Rep Nat := Pu natC
theorem RNat.ok : RepOk RNat 1 := Pu.ok (fun _ => rfl) (fun x u hu => by simp [natC] at hu; subst hu; rfl)
theorem news_nats (w : World) (S : Nat → Prop) (C : Array Value) (t : TypeId) (l : List Nat) (hC : C.toList = l.map fun (n : Nat) => Value.int .i64 (n : Int)) :
    ∀ i y, l[i]? = some y → ∃ cs, RNat (w.alloc (.cells C t)) S y cs ∧ ∀ j u, cs[j]? = some u → (w.alloc (.cells C t)).cell? ((⟨w.heap.size, 0, none⟩ : Addr).add (i * 1 + j)) = some u :=
  news_pu (f := natC) (size := 1) (fun _ => rfl) w S C t l (by
    rw [hC]
    clear hC
    induction l with
    | nil => rfl
    | cons x l ih => rw [List.map_cons, List.flatMap_cons, ih]; rfl)
theorem Own.natAt {e : TypeId} {w : World} {base : Nat} {S : Nat → Prop} {v : Value} {l : List Nat} (h : Own RNat 1 e w base S v l) {i : Nat} (hi : i < l.length) :
    ∃ g cap, v = .slice (some ⟨g, 0, none⟩) l.length cap ∧ base ≤ g ∧ g < w.heap.size ∧ l.length ≤ cap ∧ cap ≤ maxLen ∧ w.cell? ⟨g, i, none⟩ = some (.int .i64 (l[i] : Int)) := by
  obtain ⟨g, cap, ys, hv, hb, hg, hc, hm, hr, hh, _⟩ := h.at_ hi
  have hr' : ys = natC l[i] := hr
  subst hr'
  exact ⟨g, cap, hv, hb, hg, hc, hm, by simpa using hh 0 _ rfl⟩
theorem Sl.natAt {w : World} {S : Nat → Prop} {A : Option Addr} {n c : Nat} {l : List Nat} (h : Sl RNat 1 w S l [.slice A n c]) {i : Nat} (hi : i < l.length) :
    ∃ b off, A = some ⟨b, off, none⟩ ∧ S b ∧ w.cell? ⟨b, off + i, none⟩ = some (.int .i64 (l[i] : Int)) := by
  obtain ⟨b, off, xs, hA, hb, hr, hh⟩ := h.at_ hi
  have hr' : xs = natC l[i] := hr
  subst hr'
  exact ⟨b, off, hA, hb, by simpa using hh 0 _ rfl⟩

/-- what the program reads of the library: MaxLen is a number -/
def Mx (w : World) : Prop := ∃ m, w.cell? ⟨0, 0, none⟩ = some (.int .i64 m)
theorem Mx.below {w w' : World} (h : Mx w) (hb : Below w.heap.size w w') : Mx w' := by
  obtain ⟨m, hm⟩ := h
  exact ⟨m, (hb.cell (World.block_lt_of_cell? w _ hm)).trans hm⟩

def arcsL : List (List UInt8) → Option (List Nat)
  | [] => some []
  | p :: ps => (arcG p).bind fun n => (arcsL ps).map (n :: ·)
def rootL (o : Option (List Nat)) : Option (List Nat) := o.bind fun l => if rootB (l.getD 0 0) (l.getD 1 0) then some l else none
def arcsP (l : List UInt8) : Option (List Nat) :=
  if (splitC 46 l).length < 2 ∨ 12 < (splitC 46 l).length then none else rootL (arcsL (splitC 46 l))
theorem arcsL_len : ∀ (ps : List (List UInt8)) (l : List Nat), arcsL ps = some l → l.length = ps.length
  | [], l, h => by cases h; rfl
  | p :: ps, l, h => by
    obtain ⟨v, hv, h0⟩ := Option.bind_eq_some_iff.1 h
    obtain ⟨l', h1, rfl⟩ := Option.map_eq_some_iff.1 h0
    simp [arcsL_len ps l' h1]
theorem arcsL_le : ∀ (ps : List (List UInt8)) (l : List Nat), arcsL ps = some l → ∀ n ∈ l, n ≤ 2147483647
  | [], l, h => by cases h; intro n hn; cases hn
  | p :: ps, l, h => by
    obtain ⟨v, hv, h0⟩ := Option.bind_eq_some_iff.1 h
    obtain ⟨l', h1, rfl⟩ := Option.map_eq_some_iff.1 h0
    intro n hn
    rcases List.mem_cons.1 hn with rfl | hn
    · exact arcG_le p _ hv
    · exact arcsL_le ps l' h1 n hn
theorem rootL_some {o : Option (List Nat)} {l : List Nat} (h : rootL o = some l) : o = some l ∧ rootB (l.getD 0 0) (l.getD 1 0) = true := by
  unfold rootL at h
  cases o with
  | none => cases h
  | some l' =>
    simp only [Option.bind_some] at h
    split at h
    · rename_i hr
      cases h
      exact ⟨rfl, hr⟩
    · cases h
/-- what the arcs of a text are like -/
theorem arcsP_some {s : List UInt8} {l : List Nat} (h : arcsP s = some l) : 2 ≤ l.length ∧ l.length ≤ 12 ∧ (∀ n ∈ l, n ≤ 2147483647) ∧ rootB (l.getD 0 0) (l.getD 1 0) = true := by
  unfold arcsP at h
  split at h
  · cases h
  · rename_i hc
    obtain ⟨h1, h2⟩ := rootL_some h
    have := arcsL_len _ _ h1
    exact ⟨by omega, by omega, arcsL_le _ _ h1, h2⟩

def ArcsPost (w : World) (r : Option (List Nat)) (e : Ending) (w' : World) : Prop :=
  Below w.heap.size w w' ∧ match r with
    | none => e = .returned (.slice none 0 0)
    | some l => ∃ g c, e = .returned (.slice (some ⟨g, 0, none⟩) l.length c) ∧ w.heap.size ≤ g ∧ Sl RNat 1 w' (Lt w'.heap.size) l [.slice (some ⟨g, 0, none⟩) l.length c]
theorem ArcsPost.none {w : World} {e : Ending} {w' : World} (hb : Below w.heap.size w w') (he : e = .returned (.slice Option.none 0 0)) : ArcsPost w Option.none e w' := ⟨hb, he⟩

set_option maxHeartbeats 4000000 in
theorem arcs_any (s : ByteArray) (hs : s.size ≤ 1000000) (w : World) (hmx : Mx w) :
    Calls Tryd.prog 72 #[.string s] w (ArcsPost w (arcsP s.data.toList)) := by
  obtain ⟨m, hm⟩ := hmx
  have HM := hide hm
  clear hm
  obtain ⟨r, hr⟩ : ∃ r, r = arcsP s.data.toList := ⟨_, rfl⟩
  rw [← hr]
  obtain ⟨parts, hparts⟩ : ∃ parts, Lib.splitB ⟨#[46]⟩ 0 (Lib.countB s ⟨#[46]⟩) s = parts := ⟨_, rfl⟩
  have hlen : parts.length = Lib.countB s ⟨#[46]⟩ + 1 := by rw [← hparts]; exact splitB_len 46 s
  have hdata : (parts.map fun (x : ByteArray) => x.data.toList) = splitC 46 s.data.toList := by rw [← hparts]; exact splitB_C 46 s
  have hsl : (splitC 46 s.data.toList).length = parts.length := by rw [← hdata, List.length_map]
  have hcl := splitC_len 46 s.data.toList
  have hpl : parts.length ≤ 1000001 := by rw [size_string] at hcl; omega
  have HPL := hide (show ∀ p ∈ parts, p.size ≤ 1000000 from fun p hp => by
    have := splitC_mem_len 46 s.data.toList p.data.toList (by rw [← hdata]; exact List.mem_map.2 ⟨p, hp, rfl⟩)
    rw [size_string, size_string] at this
    omega)
  have hr2 : r = if parts.length < 2 ∨ 12 < parts.length then none else rootL (arcsL (parts.map fun (x : ByteArray) => x.data.toList)) := by rw [hr, arcsP, hsl, hdata]
  have HR := hide hr2
  have HPS := hide hparts
  have HLEN := hide hlen
  clear hr hparts hdata hsl hcl hlen hr2
  have hbase : w.heap.size ≤ w.heap.size := Nat.le_refl _
  go_enter Tryd.func72, Tryd.ntmps72
  go_wp2_with fail
  refine (Tryd.strings_Split s ⟨#[46]⟩ m _ (by omega) HM.out (Nat.le_refl 1)).mono ?_
  rintro e w1 ⟨rfl, hw1⟩
  rw [HPS.out, ← HLEN.out] at *
  obtain ⟨C, hC⟩ : ∃ C, C = (parts.map Value.string).toArray := ⟨_, rfl⟩
  rw [← hC] at hw1
  have hw1s : w1.heap.size = w.heap.size + 1 := by rw [hw1]; simp
  have hcell : ∀ i (h : i < parts.length), w1.cell? ⟨w.heap.size, i, none⟩ = some (.string parts[i]) := fun i hi => by
    rw [hw1, World.cell?_alloc_new, hC]; simp [hi]
  have hb1 : Below w.heap.size w w1 := by rw [hw1]; exact (Below.refl _ _).alloc (Nat.le_refl _) _
  have HC := hide hcell
  have HB1 := hide hb1
  have HW1S := hide hw1s
  clear hw1 hcell hb1 hw1s hC hbase
  by_cases hn : parts.length < 2 ∨ 12 < parts.length
  · have HX := hide (show r = none by rw [HR.out, if_pos hn])
    rcases hn with hn | hn
    all_goals
      go_wp2_with fail
      go_ret
      exact HX.out ▸ ⟨HB1.out, rfl⟩
  · have HX := hide (show r = rootL (arcsL (parts.map fun (x : ByteArray) => x.data.toList)) by rw [HR.out, if_neg hn])
    have hn1 : 2 ≤ parts.length := by omega
    have hn2 : parts.length ≤ 12 := by omega
    clear hn
    obtain ⟨base, hbase⟩ : ∃ base, base = w1.heap.size := ⟨_, rfl⟩
    have HBASE := hide hbase
    clear hbase
    go_wp2_with fail
    go_loopw [4, 20] (fun v i wr => ∃ (k : Nat) (out : List Nat), k ≤ parts.length ∧ out.length = k ∧ i = .int .i64 k ∧ Own RNat 1 3 wr base No v out ∧ Below base w1 wr ∧ Hid (arcsL (parts.map fun (x : ByteArray) => x.data.toList) = (arcsL ((parts.drop k).map fun (x : ByteArray) => x.data.toList)).map (out ++ ·))) (fun _ i _ => parts.length - (intOf i).toNat)
    case atStart => exact ⟨0, [], Nat.zero_le _, rfl, rfl, Own.nil _ _ _ _ _ _, Below.refl _ _, hide (by simp)⟩
    case round =>
      obtain ⟨k, out, hk, hol, rfl, hown, hb, H⟩ := hrel
      have HOL := hide hol
      have hol' : out.length ≤ k := by omega
      clear hol
      have hgs : base ≤ wr.heap.size := by have := hb.size; have := HBASE.out; omega
      have hwb : w.heap.size < base := by have := HBASE.out; have := HW1S.out; omega
      by_cases hlt : k < parts.length
      · have hcell : wr.cell? ⟨w.heap.size, k, none⟩ = some (.string parts[k]) := (hb.cell hwb).trans (HC.out k hlt)
        have hdr := List.drop_eq_getElem_cons hlt
        have hps := HPL.out parts[k] (List.getElem_mem hlt)
        obtain ⟨p, hp⟩ : ∃ p, parts[k] = p := ⟨_, rfl⟩
        rw [hp] at hcell hdr hps
        obtain ⟨o, ho⟩ : ∃ o, arcG p.data.toList = o := ⟨_, rfl⟩
        have HX2 := hide (show arcsL (parts.map fun (x : ByteArray) => x.data.toList) = (o.bind fun n => (arcsL ((parts.drop (k + 1)).map fun (x : ByteArray) => x.data.toList)).map (n :: ·)).map (out ++ ·) by
          rw [H.out, hdr, List.map_cons, arcsL, ho])
        have HO := hide ho
        clear hdr hp ho
        obtain ⟨A, cp, hv⟩ := (hown.sl RNat.ok).shape
        subst hv
        go_wp2_with fail
        refine (arc_any p hps _).mono ?_
        rintro e w2 ⟨rfl, rfl⟩
        rw [HO.out]
        cases o with
        | none =>
          have HN := hide (show r = none by rw [HX.out, HX2.out]; rfl)
          unfold arcI
          go_wp2_with fail
          go_ret
          exact HN.out ▸ ⟨HB1.out.trans (hb.mono (by omega)), rfl⟩
        | some n =>
          have hn := arcG_le _ _ HO.out
          have HX3 := hide (show arcsL (parts.map fun (x : ByteArray) => x.data.toList) = (arcsL ((parts.drop (k + 1)).map fun (x : ByteArray) => x.data.toList)).map ((out ++ [n]) ++ ·) by
            rw [HX2.out, Option.bind_some, Option.map_map]; congr 1; funext z; simp)
          unfold arcI
          simp only
          go_wp2_with (at_builtin; refine wpList_app RNat.ok _ rfl (.tmp 28) (.tmp 30) 34 rfl base 3 (.int .i64 0) 8 Tryd.underlying34 info_int rfl (by decide) No _ out rfl (hown.alloc RNat.ok (no_lt _) _) ⟨_, 0, none⟩ 1 1 [n] rfl rfl (news_nats _ _ _ _ [n] rfl) (no_lt _) (by simp; omega) (by simp [maxLen]; omega) (by simp; omega) ?_; intro v2 w2 hown2 hg2 hb2 hat2; have hsz2 := hb2.size; simp at hsz2)
          go_roundw
          case rel => exact ⟨k + 1, out ++ [n], by omega, by simp [HOL.out], by go_num, hown2, (below_alloc hb hgs _).trans hb2, HX3⟩
          case measure => simp [intOf]; omega
      · have hkl : k = parts.length := by omega
        have HX2 := hide (show arcsL (parts.map fun (x : ByteArray) => x.data.toList) = some out by rw [H.out, hkl]; simp [arcsL])
        have hol2 : out.length = parts.length := by rw [HOL.out, hkl]
        obtain ⟨g0, cap, hv, hbg, hgl, hgc, hgm, hc0⟩ := hown.natAt (i := 0) (by omega)
        obtain ⟨g1, cap1, hv1, _, _, _, _, hc1⟩ := hown.natAt (i := 1) (by omega)
        rw [hv] at hv1
        simp only [Value.slice.injEq, Option.some.injEq, Addr.mk.injEq, and_true, true_and] at hv1
        obtain ⟨rfl, rfl⟩ := hv1
        subst hv
        obtain ⟨a, ha⟩ : ∃ a, out[0]'(by omega) = a := ⟨_, rfl⟩
        obtain ⟨b, hb'⟩ : ∃ b, out[1]'(by omega) = b := ⟨_, rfl⟩
        rw [ha] at hc0
        rw [hb'] at hc1
        have HX3 := hide (show r = if rootB a b then some out else none by
          rw [HX.out, HX2.out, rootL, Option.bind_some]
          have e0 : out.getD 0 0 = a := by rw [← ha]; simp [List.getD, List.getElem?_eq_getElem (show 0 < out.length by omega)]
          have e1 : out.getD 1 0 = b := by rw [← hb']; simp [List.getD, List.getElem?_eq_getElem (show 1 < out.length by omega)]
          rw [e0, e1])
        have HSL := hide (fun n : Nat => (Sl.ok RNat.ok).mono (hown.sl RNat.ok) (w' := wr.drewN n) (S' := Lt wr.heap.size) (fun _ _ => rfl) (fun k hk => by rcases hk with h | h; exact h.elim; exact h.2))
        have HBD := hide (fun n => below_drewN (HB1.out.trans (hb.mono (by omega))) n)
        have hl1 : (1 : Int) < (out.length : Int) := by omega
        have hl0 : (0 : Int) < (out.length : Int) := by omega
        have HGB := hide (show w.heap.size ≤ g0 by omega)
        obtain ⟨q, hq⟩ : ∃ q, rootB a b = q := ⟨_, rfl⟩
        have HQ := hide hq
        clear hq ha hb' hown hb hgm
        go_wp2_with fail
        go_quiet ((go_at_call 97; exact quiet_left (root_any _ _ _)))
        rw [HQ.out]
        cases q
        · go_wp2_with fail
          go_ret
          have HE : r = none := by rw [HX3.out, HQ.out]; rfl
          exact HE ▸ ArcsPost.none (HBD.out _) rfl
        · go_wp2_with fail
          go_ret
          have HE : r = some out := by rw [HX3.out, HQ.out]; rfl
          refine HE ▸ ⟨HBD.out _, g0, cap, rfl, HGB.out, ?_⟩
          exact HSL.out _
end Go.Proofs.YtepibepgfackkaaDoor
