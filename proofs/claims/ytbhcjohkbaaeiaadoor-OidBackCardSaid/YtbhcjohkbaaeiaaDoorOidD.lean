/- The functions of package oid: Encode. -/
import Derived.Test.YtbhcjohkbaaeiaaDoorOidC
namespace Go.Proofs.YtbhcjohkbaaeiaaDoor
open Go.RowKit

def encR (o : Option (List UInt8)) : Value := .tuple #[.string ⟨(o.getD []).toArray⟩, .int .i64 (if o.isSome then 0 else 11)]
def encL (l : List Nat) : List UInt8 := putL (40 * l.getD 0 0 + l.getD 1 0) ++ (l.drop 2).flatMap putL
def encP (s : List UInt8) : Option (List UInt8) := (arcsP s).map encL
theorem putL_len (n : Nat) (h : n ≤ 4294967295) : (putL n).length ≤ 6 := by
  have := hiL_len (n / 128) (by omega)
  simp [putL]; omega
theorem rootB_le {a b : Nat} (h : rootB a b = true) : a ≤ 2 := by
  unfold rootB at h
  simp at h
  omega
theorem ret_encN {o : Option (List UInt8)} (h : o = none) : Ending.returned (.tuple #[.string ⟨#[]⟩, .int .i64 11]) = Ending.returned (encR o) := by subst h; rfl
theorem ret_encS {o : Option (List UInt8)} {l : List UInt8} (h : o = some l) : Ending.returned (.tuple #[.string ⟨l.toArray⟩, .int .i64 0]) = Ending.returned (encR o) := by subst h; rfl

set_option maxHeartbeats 4000000 in
theorem Encode_any (s : ByteArray) (hs : s.size ≤ 1000000) (w : World) (hmx : Mx w) :
    Calls Tryd.prog 10 #[.string s] w fun e w' => e = .returned (encR (encP s.data.toList)) ∧ Below w.heap.size w w' := by
  have HMX := hide hmx
  clear hmx
  obtain ⟨r, hr⟩ : ∃ r, arcsP s.data.toList = r := ⟨_, rfl⟩
  rw [encP, hr]
  have HR := hide hr
  clear hr
  go_enter Tryd.func10, Tryd.ntmps10
  go_wp2_with fail
  refine (arcs_any s hs _ HMX.out).mono ?_
  rw [HR.out]
  rintro e w1 ⟨hb, h⟩
  cases r with
  | none =>
    subst h
    have hq := fun W : World => Lib.run_eql_slice_nil (P := Tryd.prog) W 39 3 none 0 0 0 0 Tryd.underlying39
    go_wp2_with fail
    go_ret2
    exact ⟨rfl, hb⟩
  | some l =>
    obtain ⟨g, c, rfl, hg, hsl⟩ := h
    obtain ⟨h2, h12, hle, hroot⟩ := arcsP_some HR.out
    have hq := fun W : World => Lib.run_eql_slice_nil (P := Tryd.prog) W 39 3 (some ⟨g, 0, none⟩) l.length c 0 0 Tryd.underlying39
    obtain ⟨-, hlc, -⟩ := hsl.len_
    have hcell : ∀ i (h : i < l.length), w1.cell? ⟨g, i, none⟩ = some (.int .i64 (l[i] : Int)) := fun i hi => by
      obtain ⟨b, off, hA, hb', hc⟩ := hsl.natAt hi
      cases hA
      simpa using hc
    obtain ⟨b0, o0, hA, hgl, -⟩ := hsl.natAt (i := 0) (by omega)
    cases hA
    have hgl' : g < w1.heap.size := hgl
    have h0 := hcell 0 (by omega)
    have h1 := hcell 1 (by omega)
    have HCELL := hide hcell
    obtain ⟨a, ha⟩ : ∃ a, l[0]'(by omega) = a := ⟨_, rfl⟩
    obtain ⟨b, hbb⟩ : ∃ b, l[1]'(by omega) = b := ⟨_, rfl⟩
    rw [ha] at h0
    rw [hbb] at h1
    have e0 : l.getD 0 0 = a := by rw [← ha]; simp [List.getD, List.getElem?_eq_getElem (show 0 < l.length by omega)]
    have e1 : l.getD 1 0 = b := by rw [← hbb]; simp [List.getD, List.getElem?_eq_getElem (show 1 < l.length by omega)]
    rw [e0, e1] at hroot
    have ha2 := rootB_le hroot
    have hb2 : b ≤ 2147483647 := by rw [← hbb]; exact hle _ (List.getElem_mem _)
    have HE := hide (show encL l = putL (40 * a + b) ++ (l.drop 2).flatMap putL by rw [encL, e0, e1])
    have HLE := hide hle
    have HB := hide hb
    clear e0 e1 hroot ha hbb hle hsl hcell hb
    have hi0 : (0 : Int) < (l.length : Int) := by omega
    have hi1 : (1 : Int) < (l.length : Int) := by omega
    have hw1 : IntKind.i64.wrap (40 * (a : Int)) = 40 * (a : Int) := IntWalk.i64_in _ (by omega)
    have hw2 : IntKind.i64.wrap (40 * (a : Int) + (b : Int)) = 40 * (a : Int) + (b : Int) := IntWalk.i64_in _ (by omega)
    have hix0 : (0 : Nat) < l.length := by omega
    have hix1 : (1 : Nat) < l.length := by omega

    go_wp2_with fail
    go_region_held3 (fun W => W.cell? ⟨g, 0, none⟩ = some (.int .i64 (a : Int)) ∧ W.cell? ⟨g, 1, none⟩ = some (.int .i64 (b : Int)))
      (first | exact ⟨h0, h1⟩ | exact ⟨(hb9.cell hgl').trans h0, (hb9.cell hgl').trans h1⟩)
      ((go_at_call 22; refine (put_int (40 * a + b) _ (by omega) (by omega) _ [] w1.heap.size _ (by simp) (Own.nil _ _ _ _ _ _) (by simp)).mono ?_; rintro e w9 ⟨v9, rfl, hown9, hb9⟩))
    all_goals
      clear hw1 hw2 hi0 hi1 hix0 hix1 h0 h1
      rw [List.nil_append] at hown9
      have hpl := putL_len (40 * a + b) (by omega)
      have hs9 := hb9.size
      obtain ⟨m, hm⟩ : ∃ m, l.length - 2 = m := ⟨_, rfl⟩
      have hlm : l.length = m + 2 := by omega
      have hm10 : m ≤ 10 := by omega
      go_wp2_with fail
    all_goals
      have hwb : w1.heap.size ≤ w9.heap.size := hs9
      obtain ⟨base, hbase⟩ : ∃ base, base = w1.heap.size := ⟨_, rfl⟩
      rw [← hbase] at hown9 hgl' hwb
      have HBASE := hide hbase
      have HB9 := hide hb9
      clear hm hbase hs9 hb9
      go_loopw [5, 24] (fun v i wr => ∃ (k : Nat) (out : List UInt8), k ≤ m ∧ i = .int .i64 k ∧ Own RByte 1 5 wr base No v out ∧ Below base w9 wr ∧ base ≤ wr.heap.size ∧ out.length ≤ 6 * k + 6 ∧ Hid (encL l = out ++ (l.drop (2 + k)).flatMap putL)) (fun _ i _ => m - (intOf i).toNat)
      case atStart => exact ⟨0, _, by omega, rfl, hown9, Below.refl _ _, hwb, by omega, HE⟩
      case round =>
        obtain ⟨k, out, hk, rfl, hown, hb, hgs, hol, HO⟩ := hrel
        by_cases hlt : k < m
        · first
          | (exfalso; omega)
          | (have hcell : wr.cell? ⟨g, 2 + k, none⟩ = some (.int .i64 (l[2 + k]'(by omega) : Int)) := (hb.cell hgl').trans (((HB9.out).cell (HBASE.out ▸ hgl')).trans (HCELL.out (2 + k) (by omega)))
             have hle := HLE.out (l[2 + k]'(by omega)) (List.getElem_mem _)
             have hd := List.drop_eq_getElem_cons (show 2 + k < l.length by omega)
             obtain ⟨x, hx⟩ : ∃ x, l[2 + k]'(by omega) = x := ⟨_, rfl⟩
             rw [hx] at hcell hle hd
             have HP := hide (show encL l = (out ++ putL x) ++ (l.drop (2 + (k + 1))).flatMap putL by
               rw [HO.out, hd, List.flatMap_cons, List.append_assoc]; rfl)
             have hplx := putL_len x (by omega)
             clear hx hd
             go_wp2_with fail
             refine (put_any x (by omega) _ out base _ hgs hown (by omega)).mono ?_
             rintro e w3 ⟨v3, rfl, hown3, hb3⟩
             have hs3 := hb3.size
             go_wp2_with fail
             go_roundw
             case rel => exact ⟨k + 1, out ++ putL x, by omega, by go_num, hown3, hb.trans hb3, by omega, by simp; omega, HP⟩
             case measure => simp [intOf]; omega)
        · have hkm : k = m := by omega
          have HP := hide (show encL l = out by rw [HO.out, List.drop_of_length_le (by omega)]; simp)
          have hconv := run_bts_str (P := Tryd.prog) wr 22 9 5 Tryd.underlying22 Tryd.underlying5 Tryd.underlying9 _ _ _ (hown.sl RByte.ok)
          go_wp2_with fail
          go_ret2
          exact ⟨ret_encS (by rw [← HP.out]; rfl), HB.out.trans ((((Below.refl w1.heap.size w1).drew).trans (HB9.out.trans (HBASE.out ▸ hb))).mono (by have := HB.out.size; omega))⟩
end Go.Proofs.YtbhcjohkbaaeiaaDoor
