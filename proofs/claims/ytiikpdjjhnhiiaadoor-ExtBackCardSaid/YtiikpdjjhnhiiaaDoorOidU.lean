/- The laws OidDecode and OidBack, their walks. -/
import Derived.Test.YtiikpdjjhnhiiaaDoorOidT
import Derived.Test.YtiikpdjjhnhiiaaDoorOidO
import Derived.Test.YtiikpdjjhnhiiaaDoorOid2
import Derived.Test.YtiikpdjjhnhiiaaDoorLib2
namespace Go.Proofs.YtiikpdjjhnhiiaaDoor
open Go.RowKit

def obTab : List UInt8 := [0, 1, 39, 40, 80, 119, 127, 128, 129, 135, 136, 143, 255]
theorem ob_get (m : Nat) (h : m < 13) : (obTab.map fun b => Value.int .u8 (b.toNat : Int))[m]? = some (.int .u8 ((obTab.getD m 0).toNat : Int)) := by
  rw [List.getElem?_map, List.getElem?_eq_getElem (by exact h)]
  simp [List.getD, List.getElem?_eq_getElem (show m < obTab.length from h)]
  rfl


theorem decP_size {c z : List UInt8} (h : decP c = some z) : z.length ≤ 1000 := by
  rw [decP_fin] at h
  obtain ⟨l, h1, h2⟩ := Option.bind_eq_some_iff.1 h
  unfold finL at h2
  split at h2
  · rename_i hv
    cases h2
    obtain ⟨_, h12, h3, _⟩ := hv.2
    have := showL_le (expandL l) (fun n hn => by have := h3 n hn; omega)
    omega
  · cases h2
theorem encL_size {L : List Nat} (h : ValidA L) : (encL L).length ≤ 1000 := by
  obtain ⟨h1, h12, h3, h4⟩ := h
  have hr := rootB_le h4
  have hf : ∀ r : List Nat, (∀ n ∈ r, n ≤ 2147483647) → (r.flatMap putL).length ≤ 6 * r.length := by
    intro r
    induction r with
    | nil => intro _; simp
    | cons n r ih =>
      intro h
      have := ih (fun m hm => h m (by simp [hm]))
      have := putL_len n (by have := h n (by simp); omega)
      rw [List.flatMap_cons, List.length_append, List.length_cons]
      omega
  have hb : L.getD 1 0 ≤ 2147483647 := by
    rw [List.getD, List.getElem?_eq_getElem (show 1 < L.length by omega)]
    exact h3 _ (List.getElem_mem _)
  have := hf (L.drop 2) (fun n hn => h3 n (List.mem_of_mem_drop hn))
  have := putL_len (40 * L.getD 0 0 + L.getD 1 0) (by omega)
  rw [encL, List.length_append]
  rw [List.length_drop] at *
  omega

end Go.Proofs.YtiikpdjjhnhiiaaDoor
