/- The functions of package text and its reference, eighth part: the reference's Escape and Unescape. -/
import Derived.Test.YtepibepgfackkaaDoorTxtG
namespace Go.Proofs.YtepibepgfackkaaDoor
open Go.RowKit

set_option maxHeartbeats 2000000 in
theorem rEscape_any (s : ByteArray) (hs : s.size ≤ 1000000) (w : World) :
    Calls Tryd.prog 62 #[.string s] w fun e w' => e = .returned (.string ⟨(s.data.toList.flatMap escB).toArray⟩) ∧ Below w.heap.size w w' := by
  obtain ⟨r, hr⟩ : ∃ r, r = s.data.toList.flatMap escB := ⟨_, rfl⟩
  rw [← hr]
  have HR := hide hr
  clear hr
  obtain ⟨base, hbase, HBASE⟩ : ∃ base, base ≤ w.heap.size ∧ Hid (base = w.heap.size) := ⟨_, Nat.le_refl _, rfl⟩
  go_enter Tryd.func62, Tryd.ntmps62
  go_wp2_with fail
  go_loopw [3, 4] (fun v i wr => ∃ (k : Nat) (o : ByteArray), k ≤ s.size ∧ o.size ≤ 3 * k ∧ v = .string o ∧ i = .int .i64 k ∧ Below base w wr ∧ Hid (r = o.data.toList ++ (s.data.toList.drop k).flatMap escB)) (fun _ i _ => s.size - (intOf i).toNat)
  case atStart => exact ⟨0, _, Nat.zero_le _, by decide, rfl, rfl, Below.refl _ _, HR⟩
  case round =>
    obtain ⟨k, o, hk, hol, rfl, rfl, hb, H⟩ := hrel
    have hgs : base ≤ wr.heap.size := by have := hb.size; omega
    by_cases hlt : k < s.size
    · have HD := hide (drop_string s k hlt)
      have HO := hide (ba_one s k hlt)
      have hes := ba_size_ex s k (k + 1) hlt
      have hes' : (s.extract k (k + 1)).size ≤ 1 := by omega
      clear hes
      have hsl := slice_str (P := Tryd.prog) 9 Tryd.underlying9 s k (k + 1) (k : Int) ((k : Int) + 1) rfl (by omega) (by omega) hlt
      obtain ⟨p, hp⟩ : ∃ p, isPlain s[k] = p := ⟨_, rfl⟩
      have HP := hide hp
      go_wp2_with fail
      refine (rplain_any _ _).mono ?_
      rintro e w2 ⟨rfl, rfl⟩
      rw [hp]
      clear hp
      cases p
      · go_wp2_with fail
        refine (Hex_any _ (by omega) _).mono ?_
        rintro e w2 ⟨rfl, hb2⟩
        obtain ⟨h2, hh2⟩ : ∃ h2 : ByteArray, h2 = ⟨((s.extract k (k + 1)).data.toList.flatMap hexB).toArray⟩ := ⟨_, rfl⟩
        rw [← hh2]
        have hh2l : h2.data.toList = hexB s[k] := by rw [hh2, HO.out]; simp
        have hh2s : h2.size = 2 := by rw [← size_string, hh2l]; rfl
        have hh2s' : h2.size ≤ 2 := by omega
        have HH := hide hh2l
        have HS2 := hide hh2s
        clear hh2 hh2l hh2s
        go_wp2_with fail
        go_roundw
        case rel =>
          refine ⟨k + 1, _, by omega, ?_, rfl, by go_num, hb.trans (hb2.mono hgs), hide ?_⟩
          · rw [ba_size, ba_size, HS2.out]
            have : (⟨#[92]⟩ : ByteArray).size = 1 := rfl
            omega
          · rw [H.out, HD.out, List.flatMap_cons, escB, HP.out, ba_append, ba_append, HH.out, List.append_assoc]; rfl
        case measure => simp [intOf]; omega
      · go_wp2_with fail
        go_roundw
        case rel => exact ⟨k + 1, o ++ s.extract k (k + 1), by omega, by rw [ba_size]; omega, rfl, by go_num, hb, hide (by rw [H.out, HD.out, List.flatMap_cons, escB, HP.out, ba_append, HO.out, List.append_assoc]; rfl)⟩
        case measure => simp [intOf]; omega
    · have HE := hide (drop_string_end s k (by omega))
      go_wp2_with fail
      go_ret
      exact ⟨ret_ba (by rw [H.out, HE.out]; simp), HBASE.out ▸ hb⟩

/-- the reference's Unescape, its loop -/
def runescL : Nat → List UInt8 → Option (List UInt8)
  | 0, _ => none
  | _ + 1, [] => some []
  | n + 1, c :: r => if c ≠ 92 then (runescL n r).map (c :: ·) else
      if r.length < 2 then none else
      (unhexL (r.take 2)).bind fun x => (runescL n (r.drop 2)).map (x ++ ·)
def runescE : Option (List UInt8) → List UInt8 → Option (List UInt8)
  | none, _ => none
  | some o, l => if o.flatMap escB = l then some o else none
def runesc (l : List UInt8) : Option (List UInt8) := runescE (runescL (l.length + 1) l) l

theorem byte_eq92 (c : UInt8) : ((c.toNat : Int) == 92) = (c == 92) := byte_beq c 92
theorem unhexL_two (a b : UInt8) (x : List UInt8) (h : unhexL [a, b] = some x) : x.length = 1 := by
  unfold unhexL at h
  split at h
  · cases h
  · simp [unhexL] at h; subst h; rfl
theorem ret_opt {o : ByteArray} {r : Option (List UInt8)} (h : r = some o.data.toList) : Ending.returned (.tuple #[.string o, .bool true]) = Ending.returned (optR r) := by subst h; rfl
theorem ret_none {r : Option (List UInt8)} (h : r = none) : Ending.returned (.tuple #[.string ⟨#[]⟩, .bool false]) = Ending.returned (optR r) := by subst h; rfl

set_option maxHeartbeats 2000000 in
theorem rUnescape_any (s : ByteArray) (hs : s.size ≤ 1000000) (w : World) :
    Calls Tryd.prog 43 #[.string s] w fun e w' => e = .returned (optR (runesc s.data.toList)) ∧ Below w.heap.size w w' := by
  obtain ⟨r, hr⟩ : ∃ r, r = runescL (s.data.toList.length + 1) s.data.toList := ⟨_, rfl⟩
  obtain ⟨q, hq⟩ : ∃ q, q = runesc s.data.toList := ⟨_, rfl⟩
  rw [← hq]
  have HQ := hide (show q = runescE r s.data.toList by rw [hq, runesc, hr])
  rw [size_string] at hr
  have HR := hide hr
  clear hr hq
  obtain ⟨base, hbase, HBASE⟩ : ∃ base, base ≤ w.heap.size ∧ Hid (base = w.heap.size) := ⟨_, Nat.le_refl _, rfl⟩
  go_enter Tryd.func43, Tryd.ntmps43
  go_wp2_with fail
  go_loopw [4, 5] (fun v i wr => ∃ (k n : Nat) (o : ByteArray), k ≤ s.size ∧ s.size < k + n ∧ o.size ≤ k ∧ v = .string o ∧ i = .int .i64 k ∧ Below base w wr ∧ Hid (r = (runescL n (s.data.toList.drop k)).map (o.data.toList ++ ·))) (fun _ i _ => s.size - (intOf i).toNat)
  case atStart => exact ⟨0, s.size + 1, _, Nat.zero_le _, by omega, by decide, rfl, rfl, Below.refl _ _, hide (by rw [HR.out]; simp)⟩
  case round =>
    obtain ⟨k, n, o, hk, hn, hol, rfl, rfl, hb, H⟩ := hrel
    obtain ⟨n, rfl⟩ : ∃ m, n = m + 1 := ⟨n - 1, by omega⟩
    have hgs : base ≤ wr.heap.size := by have := hb.size; omega
    by_cases hlt : k < s.size
    · have HD := hide (drop_string s k hlt)
      by_cases h92 : s[k] = 92
      · have ht : ((s[k].toNat : Int) != 92) = false := by rw [bne, byte_eq92]; simp [h92]
        have HC := hide h92
        clear h92
        by_cases h3 : s.size < k + 3
        · have HX := hide (show runescL (n + 1) (s.data.toList.drop k) = none by
            rw [HD.out, runescL, if_neg (by simp [HC.out]), if_pos (by rw [List.length_drop, size_string]; omega)])
          go_wp2_with fail
          go_ret2
          exact ⟨ret_none (by rw [HQ.out, H.out, HX.out]; rfl), HBASE.out ▸ hb⟩
        · have HD1 := hide (drop_string s (k + 1) (by omega))
          have HD2 := hide (drop_string s (k + 2) (by omega))
          have HTK := hide (show (s.extract (k + 1) (k + 3)).data.toList = [s[k + 1]'(by omega), s[k + 2]'(by omega)] by
            rw [Lib.extract_data, HD1.out, HD2.out]; simp)
          have hes := ba_size_ex s (k + 1) (k + 3) (by omega)
          have hes' : (s.extract (k + 1) (k + 3)).size ≤ 2 := by omega
          clear hes
          have hsl := slice_str (P := Tryd.prog) 9 Tryd.underlying9 s (k + 1) (k + 3) ((k : Int) + 1) ((k : Int) + 3) (by omega) (by omega) (by omega) (by omega)
          go_wp2_with fail
          refine (Unhex_any _ (by omega) _).mono ?_
          rintro e w2 ⟨rfl, hb2⟩
          rw [HTK.out]
          obtain ⟨u, hu⟩ : ∃ u, unhexL [s[k + 1]'(by omega), s[k + 2]'(by omega)] = u := ⟨_, rfl⟩
          have HX := hide (show runescL (n + 1) (s.data.toList.drop k) = u.bind fun x => (runescL n (s.data.toList.drop (k + 3))).map (x ++ ·) by
            rw [HD.out, runescL, if_neg (by simp [HC.out]), if_neg (by rw [List.length_drop, size_string]; omega), HD1.out, HD2.out]
            simp [hu])
          rw [hu]
          have HU := hide hu
          clear hu
          cases u with
          | none =>
            unfold optR
            go_wp2_with fail
            go_ret2
            exact ⟨ret_none (by rw [HQ.out, H.out, HX.out]; rfl), HBASE.out ▸ hb.trans (hb2.mono hgs)⟩
          | some x =>
            have hx1 := unhexL_two _ _ _ HU.out
            have hx2 : (⟨x.toArray⟩ : ByteArray).size = 1 := hx1
            have HX1 := hide hx1
            obtain ⟨y, hy⟩ : ∃ y : ByteArray, y = ⟨x.toArray⟩ := ⟨_, rfl⟩
            unfold optR
            simp only [Option.getD_some, Option.isSome_some]
            rw [← hy]
            rw [← hy] at hx2
            have hys : y.size ≤ 1 := by omega
            have HY := hide (show y.data.toList = x by rw [hy])
            clear hx1 hx2 hy
            go_wp2_with fail
            go_roundw
            case rel => exact ⟨k + 3, n, o ++ y, by omega, by omega, by rw [ba_size]; omega, rfl, by go_num, hb.trans (hb2.mono hgs), hide (by rw [H.out, HX.out, Option.bind_some, Option.map_map, ba_append, HY.out]; congr 1; funext z; simp)⟩
            case measure => simp [intOf]; omega
      · have ht : ((s[k].toNat : Int) != 92) = true := by rw [bne, byte_eq92]; simp [h92]
        have HC := hide h92
        clear h92
        have HO := hide (ba_one s k hlt)
        have hes := ba_size_ex s k (k + 1) hlt
        have hes' : (s.extract k (k + 1)).size ≤ 1 := by omega
        clear hes
        have hsl := slice_str (P := Tryd.prog) 9 Tryd.underlying9 s k (k + 1) (k : Int) ((k : Int) + 1) rfl (by omega) (by omega) hlt
        go_wp2_with fail
        go_roundw
        case rel => exact ⟨k + 1, n, o ++ s.extract k (k + 1), by omega, by omega, by rw [ba_size]; omega, rfl, by go_num, hb, hide (by rw [H.out, HD.out, runescL, if_pos HC.out, Option.map_map, ba_append, HO.out]; congr 1; funext z; simp)⟩
        case measure => simp [intOf]; omega
    · have HE := hide (drop_string_end s k (by omega))
      have HX := hide (show r = some o.data.toList by rw [H.out, HE.out]; simp [runescL])
      go_wp2_with fail
      refine (rEscape_any o (by omega) _).mono ?_
      rintro e w2 ⟨rfl, hb2⟩
      have HBW : Below w.heap.size w w2 := by have h := HBASE.out; subst h; exact hb.trans (hb2.mono hgs)
      by_cases heq : o.data.toList.flatMap escB = s.data.toList
      · have ht : ((o.data.toList.flatMap escB == s.toList) = true) := by rw [ByteArray.toList_eq]; simp [heq]
        have HEQ := hide heq
        clear heq
        go_wp2_with fail
        go_ret2
        exact ⟨ret_opt (by rw [HQ.out, HX.out]; simp [runescE, HEQ.out]), HBW⟩
      · have ht : ((o.data.toList.flatMap escB == s.toList) = false) := by rw [ByteArray.toList_eq]; simp [heq]
        have HEQ := hide heq
        clear heq
        go_wp2_with fail
        go_ret2
        exact ⟨ret_none (by rw [HQ.out, HX.out]; simp [runescE, HEQ.out]), HBW⟩
end Go.Proofs.YtepibepgfackkaaDoor
