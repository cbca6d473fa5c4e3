/- The reference's Address, AddressWithin. -/
import Derived.Test.YtodapmkdmkhhfaaGreatDoorRefF
import Derived.Deep.QuietTactic
import Derived.BigQuiet
namespace Go.Proofs.YtodapmkdmkhhfaaGreatDoor
open Go.RowKit

set_option maxHeartbeats 1000000 in
theorem raddr_any (s : ByteArray) (q : Bool) (hq : addrB s.data.toList = q) (w : World) : Calls Tryz.prog 99 #[.string s] w fun e w' => e = .returned (.bool q) ∧ w = w' := by
  have hss := size_string s
  rw [addrB, hss] at hq
  by_cases h4 : s.size = 4
  · have t1 : ((s.size : Int) == 4) = true := by rw [h4]; rfl
    have HQ := hide (show true = q by rw [← hq, h4]; rfl)
    clear hq h4 hss
    go_enter Tryz.func99, Tryz.ntmps99
    go_wp2_with fail
    go_ret
    exact ⟨ret_bool HQ.out, rfl⟩
  · have t1 : ((s.size : Int) == 4) = false := by rw [beq_eq_false_iff_ne]; omega
    by_cases h16 : s.size = 16
    · have t2 : ((s.size : Int) == 16) = true := by rw [h16]; rfl
      have HQ := hide (show true = q by rw [← hq, h16]; rfl)
      clear hq h4 h16 hss
      go_enter Tryz.func99, Tryz.ntmps99
      go_wp2_with fail
      go_ret
      exact ⟨ret_bool HQ.out, rfl⟩
    · have t2 : ((s.size : Int) == 16) = false := by rw [beq_eq_false_iff_ne]; omega
      have HQ := hide (show false = q by
        rw [← hq, show (s.size == 4) = false by rw [beq_eq_false_iff_ne]; exact h4, show (s.size == 16) = false by rw [beq_eq_false_iff_ne]; exact h16]; rfl)
      clear hq h4 h16 hss
      go_enter Tryz.func99, Tryz.ntmps99
      go_wp2_with fail
      go_ret
      exact ⟨ret_bool HQ.out, rfl⟩

/-- byte by byte: an address within a range; if 'two', a range within it -/
def awG (two : Bool) (x m b o : List UInt8) : Nat → Nat → Bool
  | 0, _ => true
  | n + 1, i => (msk1 (x.getD i 0) (m.getD i 0) (b.getD i 0) && (!two || msk1 (o.getD i 0) (m.getD i 0) (m.getD i 0))) && awG two x m b o n (i + 1)
theorem sub_msk (m o : UInt8) : sub1 m o = msk1 o m m := by
  unfold sub1 msk1
  have key : ∀ a b : Fin 256, ((a.1 &&& (255 - b.1)) == 0) = ((b.1 &&& a.1) == a.1) := by decide +kernel
  exact key ⟨m.toNat, m.toNat_lt⟩ ⟨o.toNat, o.toNat_lt⟩
theorem awG_one (x m b o : List UInt8) : ∀ n i, awG false x m b o n i = mskG x m b n i
  | 0, _ => rfl
  | n + 1, i => by
    unfold awG mskG
    rw [awG_one x m b o n (i + 1)]
    simp
theorem awG_two (x m b o : List UInt8) : ∀ n i, awG true x m b o n i = (subG m o n i && mskG x m b n i)
  | 0, _ => rfl
  | n + 1, i => by
    unfold awG subG mskG
    rw [awG_two x m b o n (i + 1), sub_msk]
    cases msk1 (x.getD i 0) (m.getD i 0) (b.getD i 0) <;> cases msk1 (o.getD i 0) (m.getD i 0) (m.getD i 0) <;> simp
end Go.Proofs.YtodapmkdmkhhfaaGreatDoor
