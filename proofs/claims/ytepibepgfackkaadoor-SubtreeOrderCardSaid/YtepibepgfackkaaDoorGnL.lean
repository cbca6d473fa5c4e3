/- The plain law behind SubtreeOrder: the order of the constraints does not matter, a further one never permits more. -/
import Derived.Test.YtepibepgfackkaaDoorGn1
namespace Go.Proofs.YtepibepgfackkaaDoor
open Go.RowKit

theorem permitsG_rev (st : List Sub) (g : Gen) : permitsG st.reverse g = permitsG st g := by
  unfold permitsG allowsG
  rw [List.any_reverse, List.all_reverse]
theorem permitsG_snoc (st : List Sub) (s : Sub) (g : Gen) : permitsG (st ++ [s]) g = (permitsG st g && (!(insideG g s.2) && allowG g s)) := by
  unfold permitsG allowsG
  rw [List.any_append, List.all_append]
  simp only [List.any_cons, List.any_nil, List.all_cons, List.all_nil, Bool.or_false, Bool.and_true]
  cases st.any (fun s => insideG g s.2) <;> cases st.all (allowG g) <;> cases insideG g s.2 <;> cases allowG g s <;> rfl
theorem permitsG_less (st : List Sub) (s : Sub) (g : Gen) : (permitsG (st ++ [s]) g && !(permitsG st g)) = false := by
  rw [permitsG_snoc]
  cases permitsG st g <;> simp
end Go.Proofs.YtepibepgfackkaaDoor
