/- General names as text, plain. -/
import Derived.Test.YtmgnihmjjijdoaaGreatDoorNtA
import Derived.Test.YtmgnihmjjijdoaaGreatDoorGGcA
import Derived.Test.YtmgnihmjjijdoaaGreatDoorGGnP
namespace Go.Proofs.YtmgnihmjjijdoaaGreatDoor
open Go.RowKit
def hexG (l : List UInt8) : List UInt8 := l.flatMap fun c => [hexd (c.toNat / 16), hexd (c.toNat % 16)]
def wMail : List UInt8 := [109, 97, 105, 108, 58]
def wDns : List UInt8 := [100, 110, 115, 58]
def wDir : List UInt8 := [100, 105, 114, 58]
def wIp : List UInt8 := [105, 112, 58]
def fmtD (n : Name) : List UInt8 × Int := if chkN n = 0 then (wDir ++ fmtB n, 0) else ([], chkN n)
def fmtG (g : Gen) : List UInt8 × Int :=
 if g.1 = 1 then (wMail ++ g.2.1.flatMap escB, 0) else if g.1 = 2 then (wDns ++ g.2.1.flatMap escB, 0) else if g.1 = 7 then (wIp ++ hexG g.2.1, 0) else if g.1 = 4 then fmtD g.2.2 else ([], 14)
def zeroG : Gen := (0, [], [])
def finT (k : Int) : Option (List UInt8) → Int × Gen
 | none => (32, zeroG)
 | some t => if chkG (k, t, []) false ≠ 0 ∧ chkG (k, t, []) true ≠ 0 then (chkG (k, t, []) false, zeroG) else (0, (k, t, []))
def finD (p : Int × Name) : Int × Gen := if p.1 = 0 then (0, (4, [], p.2)) else (p.1, zeroG)
def parseG (s : List UInt8) : Int × Gen :=
 if Lib.hasPrefix s wMail then finT 1 (unesc (s.drop 5)) else if Lib.hasPrefix s wDns then finT 2 (unesc (s.drop 4)) else
 if Lib.hasPrefix s wDir then finD (parseP (s.drop 4)) else if Lib.hasPrefix s wIp then finT 7 (unhexL (s.drop 3)) else (32, zeroG)
def backG (g : Gen) : Bool := (fmtG g).2 == 0 && ((parseG (fmtG g).1).1 == 0 && sameG g (parseG (fmtG g).1).2)
theorem back_mail : ∀ t ∈ gMail, backG (1, t, []) = true := by decide +kernel
theorem back_dns : ∀ t ∈ gDns, backG (2, t, []) = true := by decide +kernel
theorem back_addr : ∀ t ∈ gAddr, backG (7, t, []) = true := by decide +kernel
theorem back_bmail : ∀ t ∈ bMail, backG (1, t, []) = true := by decide +kernel
theorem back_bdns : ∀ t ∈ bDns, backG (2, t, []) = true := by decide +kernel
theorem back_baddr : ∀ t ∈ bAddr, backG (7, t, []) = true := by decide +kernel
theorem back_name {n : Name} (h : GoodN n) : backG (4, [], n) = true := by
 obtain ⟨m, h1, h2, h3⟩ := parse_fmt h
 have hf : fmtG (4, [], n) = (wDir ++ fmtB n, 0) := by
  unfold fmtG
  rw [if_neg (show ¬ (4 : Int) = 1 by decide), if_neg (show ¬ (4 : Int) = 2 by decide), if_neg (show ¬ (4 : Int) = 7 by decide), if_pos rfl, fmtD, if_pos h.chk]
 have hp : parseG (wDir ++ fmtB n) = (0, (4, [], m)) := by
  have e1 : Lib.hasPrefix (wDir ++ fmtB n) wMail = false := rfl
  have e2 : Lib.hasPrefix (wDir ++ fmtB n) wDns = false := rfl
  have e3 : Lib.hasPrefix (wDir ++ fmtB n) wDir = true := rfl
  have e4 : (wDir ++ fmtB n).drop 4 = fmtB n := rfl
  unfold parseG
  rw [e1, e2, e3, e4, h1, finD]
  simp
 rw [backG, hf]
 simp only
 rw [hp]
 simp only [beq_self_eq_true, Bool.true_and]
 exact h2
theorem GoodGen.back {g : Gen} (h : GoodGen g) : backG g = true := by
 rcases h with ⟨t, ht, rfl⟩ | ⟨t, ht, rfl⟩ | ⟨t, ht, rfl⟩ | ⟨n, hn, rfl⟩
 ·exact back_mail t ht
 ·exact back_dns t ht
 ·exact back_addr t ht
 ·exact back_name hn
theorem GoodBase.back {g : Gen} (h : GoodBase g) : backG g = true := by
 rcases h with ⟨t, ht, rfl⟩ | ⟨t, ht, rfl⟩ | ⟨t, ht, rfl⟩ | ⟨n, hn, rfl⟩
 ·exact back_bmail t ht
 ·exact back_bdns t ht
 ·exact back_baddr t ht
 ·exact back_name hn
theorem chk_mail : ∀ t ∈ gMail, chkG (1, t, []) false = 0 := by decide +kernel
theorem chk_dns : ∀ t ∈ gDns, chkG (2, t, []) false = 0 := by decide +kernel
theorem chk_addr : ∀ t ∈ gAddr, chkG (7, t, []) false = 0 := by decide +kernel
theorem chk_bmail : ∀ t ∈ bMail, chkG (1, t, []) true = 0 := by decide +kernel
theorem chk_bdns : ∀ t ∈ bDns, chkG (2, t, []) true = 0 := by decide +kernel
theorem chk_baddr : ∀ t ∈ bAddr, chkG (7, t, []) true = 0 := by decide +kernel
theorem GoodGen.chk {g : Gen} (h : GoodGen g) : chkG g false = 0 := by
 rcases h with ⟨t, ht, rfl⟩ | ⟨t, ht, rfl⟩ | ⟨t, ht, rfl⟩ | ⟨n, hn, rfl⟩
 ·exact chk_mail t ht
 ·exact chk_dns t ht
 ·exact chk_addr t ht
 ·exact hn.chk
theorem GoodBase.chk {g : Gen} (h : GoodBase g) : chkG g true = 0 := by
 rcases h with ⟨t, ht, rfl⟩ | ⟨t, ht, rfl⟩ | ⟨t, ht, rfl⟩ | ⟨n, hn, rfl⟩
 ·exact chk_bmail t ht
 ·exact chk_bdns t ht
 ·exact chk_baddr t ht
 ·exact hn.chk
end Go.Proofs.YtmgnihmjjijdoaaGreatDoor
