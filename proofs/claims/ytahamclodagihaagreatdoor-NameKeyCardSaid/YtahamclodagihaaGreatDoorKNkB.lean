/- dname.join: parts of a key as one text. -/
import Derived.Test.YtahamclodagihaaGreatDoorKNkA
import Derived.Test.YtahamclodagihaaGreatDoorKGNenI
import Derived.Test.YtahamclodagihaaGreatDoorKGOidS
namespace Go.Proofs.YtahamclodagihaaGreatDoor
open Go.RowKit
abbrev Part := Nat ⊕ List UInt8
def anyC : Part → List Value
 | .inl n => [.iface 3 (.int .i64 (n : Int))]
 | .inr s => [.iface 9 (.string ⟨s.toArray⟩)]
abbrev RAny : Rep Part := Pu anyC
theorem anyC_len (x : Part) : (anyC x).length = 1 := by cases x <;> rfl
theorem RAny.ok : RepOk RAny 1 := Pu.ok anyC_len (fun x u hu => by cases x <;> (simp [anyC] at hu; subst hu; rfl))
theorem info_any : (Tryz.prog.info? 20).map (fun i => (i.zero, i.size, i.bytes)) = some (some .nilIface, 1, 16) := by kernel_rfl
def jP : Part → List UInt8
 | .inl n => jInt n
 | .inr s => jStr s
def jS : Part → List (List UInt8)
 | .inl n => [decL n, [59]]
 | .inr s => [decL s.length, [58], s]
theorem jS_flat (p : Part) : (jS p).flatten = jP p := by cases p <;> simp [jS, jP, jInt, jStr]
theorem jSs_flat : ∀ ps : List Part, (ps.flatMap jS).flatten = ps.flatMap jP
 | [] => rfl
 | p :: ps => by rw [List.flatMap_cons, List.flatten_append, jS_flat, jSs_flat ps, List.flatMap_cons]
def okP : Part → Prop
 | .inl n => n ≤ 100000
 | .inr s => s.length ≤ 100000
theorem jP_len {p : Part} (h : okP p) : (jP p).length ≤ 200000 := by
  cases p with
  | inl n =>
    have hn : n ≤ 100000 := h
    rw [jP, jInt, List.length_append]
    have := decL_len 5 n (by omega)
    simp; omega
  | inr s =>
    have hs : s.length ≤ 100000 := h
    have := jStr_len s (by omega)
    rw [jP]; omega
theorem jPs_len : ∀ {ps : List Part}, (∀ p ∈ ps, okP p) → (ps.flatMap jP).length ≤ 200000 * ps.length
  | [], _ => by simp
  | p :: ps, h => by
    have h1 := jP_len (h p (by simp))
    have h2 := jPs_len (ps := ps) (fun q hq => h q (by simp [hq]))
    rw [List.flatMap_cons, List.length_append, List.length_cons]; omega
theorem assI (W : World) (v : Value) : (Instr.typeAssert (.iface 3 v) 20 3 true).run Tryz.prog W = .ok (.tuple #[v, .bool true]) W := by kernel_rfl
theorem assS (W : World) (v : Value) : (Instr.typeAssert (.iface 9 v) 20 9 true).run Tryz.prog W = .ok (.tuple #[v, .bool true]) W := by kernel_rfl
theorem assN (W : World) (v : Value) : (Instr.typeAssert (.iface 9 v) 20 3 true).run Tryz.prog W = .ok (.tuple #[.int .i64 0, .bool false]) W := by kernel_rfl
theorem news_s2 (w : World) (S : Nat → Prop) (t : TypeId) (x y : ByteArray) :
  ∀ i z, [x.data.toList, y.data.toList][i]? = some z → ∃ cs, RStr (w.alloc (.cells #[.string x, .string y] t)) S z cs ∧ ∀ j u, cs[j]? = some u → (w.alloc (.cells #[.string x, .string y] t)).cell? ((⟨w.heap.size, 0, none⟩ : Addr).add (i * 1 + j)) = some u :=
 news_pu (f := strC) (size := 1) (fun _ => rfl) w S _ t _ rfl
theorem news_s3 (w : World) (S : Nat → Prop) (t : TypeId) (x y z : ByteArray) :
  ∀ i s, [x.data.toList, y.data.toList, z.data.toList][i]? = some s → ∃ cs, RStr (w.alloc (.cells #[.string x, .string y, .string z] t)) S s cs ∧ ∀ j u, cs[j]? = some u → (w.alloc (.cells #[.string x, .string y, .string z] t)).cell? ((⟨w.heap.size, 0, none⟩ : Addr).add (i * 1 + j)) = some u :=
 news_pu (f := strC) (size := 1) (fun _ => rfl) w S _ t _ rfl
theorem flat_take {α β : Type} (f : α → List β) (l : List α) (k : Nat) (h : k < l.length) {y : α} (hy : l[k] = y) : (l.take (k + 1)).flatMap f = (l.take k).flatMap f ++ f y := by
 rw [List.take_succ_eq_append_getElem h, List.flatMap_append, List.flatMap_cons, List.flatMap_nil, List.append_nil, hy]
set_option maxRecDepth 100000 in
set_option maxHeartbeats 8000000 in
theorem join_any (ps : List Part) (hok : ∀ p ∈ ps, okP p) (hps : ps.length ≤ 1000) (A : Option Addr) (n c : Nat) (z : ByteArray) (hz : z = ⟨(ps.flatMap jP).toArray⟩) (w : World) (htb : Tb w) (h : Sl RAny 1 w (Lt w.heap.size) ps [.slice A n c]) :
    Calls Tryz.prog 73 #[.slice A n c] w fun e w' => e = .returned (.string z) ∧ Below w.heap.size w w' := by
  have HTB := hide htb
  have K := hide h
  have HOK := hide hok
  have HZ := hide hz
  obtain ⟨hn, -, -⟩ := h.len_
  subst hn
  obtain ⟨base, hbase⟩ : ∃ b, b = w.heap.size := ⟨_, rfl⟩
  have hgs0 : base ≤ w.heap.size := by omega
  have hbw : w.heap.size ≤ base := by omega
  clear htb h hok hz hbase
  go_enter Tryz.func73, Tryz.ntmps73
  go_wp2_with fail
  go_loopw [3, 10] (fun v i wr => ∃ (k : Nat) (out : List (List UInt8)), k ≤ ps.length ∧ i = .int .i64 k ∧ out.length ≤ 3 * k ∧ Own RStr 1 9 wr base No v out ∧ Below w.heap.size w wr ∧ base ≤ wr.heap.size ∧ Hid (out = (ps.take k).flatMap jS)) (fun _ i _ => ps.length - (intOf i).toNat)
  case atStart => exact ⟨0, [], by omega, rfl, by simp, Own.nil _ _ _ _ _ _, Below.refl _ _, hgs0, hide (by simp)⟩
  case round =>
    obtain ⟨k, out, hk, rfl, hol, hown, hb, hgs, HOUT⟩ := hrel
    have HB := hide hb
    have HOWN := hide hown
    by_cases hlt : k < ps.length
    · obtain ⟨b, off, xs, hA, hbS, hr, hcell⟩ := K.out.at_ hlt
      subst hA
      have hr' : xs = anyC ps[k] := hr
      subst hr'
      have hbS' : b < w.heap.size := hbS
      have hokp := HOK.out ps[k] (List.getElem_mem hlt)
      obtain ⟨p, hp⟩ : ∃ p, ps[k] = p := ⟨_, rfl⟩
      rw [hp] at hcell hokp
      have HSTEP := hide (flat_take jS ps k hlt hp)
      have ho3 : out.length ≤ 3000 := by omega
      obtain ⟨A5, c5, hv5⟩ := (hown.sl RStr.ok).shape
      subst hv5
      obtain ⟨wo, rfl⟩ : ∃ wo : World, wo = wr := ⟨_, rfl⟩
      cases p with
      | inl m =>
        have hm : m ≤ 100000 := hokp
        have d0 : w.cell? ⟨b, off + k, none⟩ = some (.iface 3 (.int .i64 (m : Int))) := by
          have := hcell 0 _ rfl
          rw [Nat.mul_one, Nat.add_zero] at this
          exact this
        have p0 := (hb.cell (p := ⟨b, off + k, none⟩) hbS').trans d0
        have as1 := fun W => assI W (.int .i64 (m : Int))
        clear d0 hcell hb hown hp hokp hr hbS
        go_wp2_with fail
        refine (Itoa_nat m (by omega) _ (HTB.out.below HB.out)).mono ?_
        rintro e w5 ⟨rfl, hb5⟩
        obtain ⟨y, hy⟩ : ∃ y : ByteArray, y = ⟨(decL m).toArray⟩ := ⟨_, rfl⟩
        rw [← hy]
        have HYD := hide (show jS (.inl m) = [y.data.toList, (⟨#[59]⟩ : ByteArray).data.toList] by rw [hy]; rfl)
        have HB5 := hide (HB.out.trans (hb5.mono HB.out.size))
        have HO5 := hide (HOWN.out.below RStr.ok (no_lt _) hb5)
        have hz5 := hb5.size
        clear hb5 p0 hy
        go_wp2_with (at_builtin; refine wpList_app RStr.ok _ rfl (.tmp 18) (.tmp 21) 55 rfl base 9 (.string ⟨#[]⟩) 16 Tryz.underlying55 info_str rfl (by decide) No (.slice A5 out.length c5) out rfl (HO5.out.alloc RStr.ok (no_lt _) _) ⟨_, 0, none⟩ 2 2 [y.data.toList, (⟨#[59]⟩ : ByteArray).data.toList] rfl rfl (news_s2 _ _ _ y ⟨#[59]⟩) (no_lt _) (by simp; omega) (by simp [maxLen]; omega) (by simp; omega) ?_; intro v6 w6 hown6 hg6 hb6 hat6; have hsz6 := hb6.size; simp at hsz6)
        go_roundw
        case rel => exact ⟨k + 1, out ++ [y.data.toList, (⟨#[59]⟩ : ByteArray).data.toList], by omega, by go_num, by simp; omega, hown6, (HB5.out.alloc HB5.out.size _).trans (hb6.mono hbw), by omega, hide (by rw [HSTEP.out, ← HOUT.out, HYD.out])⟩
        case measure => simp [intOf]; omega
      | inr s =>
        have hs : s.length ≤ 100000 := hokp
        obtain ⟨y, hy⟩ : ∃ y : ByteArray, y = ⟨s.toArray⟩ := ⟨_, rfl⟩
        have hsy : s = y.data.toList := by rw [hy]
        have d0 : w.cell? ⟨b, off + k, none⟩ = some (.iface 9 (.string y)) := by
          have := hcell 0 _ rfl
          rw [Nat.mul_one, Nat.add_zero, ← hy] at this
          exact this
        have p0 := (hb.cell (p := ⟨b, off + k, none⟩) hbS').trans d0
        rw [hsy, size_string] at hs
        rw [hsy] at HSTEP
        have as1 := fun W => assN W (.string y)
        have as2 := fun W => assS W (.string y)
        clear d0 hcell hb hown hp hokp hr hbS hy hsy
        go_wp2_with fail
        refine (Itoa_nat y.size (by omega) _ (HTB.out.below HB.out)).mono ?_
        rintro e w5 ⟨rfl, hb5⟩
        obtain ⟨x, hx⟩ : ∃ x : ByteArray, x = ⟨(decL y.size).toArray⟩ := ⟨_, rfl⟩
        rw [← hx]
        have HYD := hide (show jS (.inr y.data.toList) = [x.data.toList, (⟨#[58]⟩ : ByteArray).data.toList, y.data.toList] by rw [hx, jS, size_string])
        have HB5 := hide (HB.out.trans (hb5.mono HB.out.size))
        have HO5 := hide (HOWN.out.below RStr.ok (no_lt _) hb5)
        have hz5 := hb5.size
        clear hb5 p0 hx
        go_wp2_with (at_builtin; refine wpList_app RStr.ok _ rfl (.tmp 26) (.tmp 31) 55 rfl base 9 (.string ⟨#[]⟩) 16 Tryz.underlying55 info_str rfl (by decide) No (.slice A5 out.length c5) out rfl (HO5.out.alloc RStr.ok (no_lt _) _) ⟨_, 0, none⟩ 3 3 [x.data.toList, (⟨#[58]⟩ : ByteArray).data.toList, y.data.toList] rfl rfl (news_s3 _ _ _ x ⟨#[58]⟩ y) (no_lt _) (by simp; omega) (by simp [maxLen]; omega) (by simp; omega) ?_; intro v6 w6 hown6 hg6 hb6 hat6; have hsz6 := hb6.size; simp at hsz6)
        go_roundw
        case rel => exact ⟨k + 1, out ++ [x.data.toList, (⟨#[58]⟩ : ByteArray).data.toList, y.data.toList], by omega, by go_num, by simp; omega, hown6, (HB5.out.alloc HB5.out.size _).trans (hb6.mono hbw), by omega, hide (by rw [HSTEP.out, ← HOUT.out, HYD.out])⟩
        case measure => simp [intOf]; omega
    · have hkl : k = ps.length := by omega
      have hout : out = ps.flatMap jS := by
        have := HOUT.out
        rwa [List.take_of_length_le (by omega)] at this
      have hfl : out.flatten = ps.flatMap jP := by rw [hout, jSs_flat]
      have hlen := jPs_len HOK.out
      have hsl := (Sl.ok RStr.ok).mono (hown.sl RStr.ok) (S' := Lt wr.heap.size) (fun _ _ => rfl) (fun j hj => by rcases hj with hj | hj; exact hj.elim; exact hj.2)
      obtain ⟨A3, c3, hv⟩ := hsl.shape
      subst hv
      have HJ := hide (show Calls Tryz.prog 66 #[.slice A3 out.length c3, .string ⟨#[]⟩] wr fun e w' => e = .returned (.string z) ∧ Below wr.heap.size wr w' by
        have := Join_flat A3 out c3 wr (Lt wr.heap.size) (fun _ h => h) hsl (by omega) (by rw [hfl]; omega)
        rw [hfl, ← HZ.out] at this
        exact this)
      clear hown hol hout hfl hlen hsl hb hkl
      go_wp2_with fail
      refine HJ.out.mono ?_
      rintro e w3 ⟨rfl, hb3⟩
      have HB3 := hide (HB.out.trans (hb3.mono HB.out.size))
      clear hb3
      go_wp2_with fail
      go_ret
      exact ⟨rfl, HB3.out⟩
end Go.Proofs.YtahamclodagihaaGreatDoor
