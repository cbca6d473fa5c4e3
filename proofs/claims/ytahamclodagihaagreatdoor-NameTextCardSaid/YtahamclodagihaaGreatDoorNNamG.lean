/- The law NameMatch, its walk. -/
import Derived.Test.YtahamclodagihaaGreatDoorNNamO
import Derived.Test.YtahamclodagihaaGreatDoorNGNamD
namespace Go.Proofs.YtahamclodagihaaGreatDoor
open Go.RowKit
theorem rMatch_v2 (n m : Name) (A B : Option Addr) (c d : Nat) (q : Bool) (hq : matchN n m = q) (w : World) (h : Sl RRdn 1 w (Lt w.heap.size) n [.slice A n.length c]) (h2 : Sl RRdn 1 w (Lt w.heap.size) m [.slice B m.length d]) (hs1 : SmallN n) (hs2 : SmallN m) :
  Calls Tryz.prog 23 #[.agg #[.slice A n.length c], .agg #[.slice B m.length d]] w fun e w' => e = .returned (.bool q) ∧ Below w.heap.size w w' := hq ▸ rMatchN_any n m A B c d w h h2 hs1 hs2
end Go.Proofs.YtahamclodagihaaGreatDoor
