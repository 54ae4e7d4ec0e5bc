/-
  Bytes out of bits, eight each. Plain laws, no program.
-/
import Derived.Test.YteegleldmnokkaaBw
namespace Go.Proofs.Yteegleldmnokkaa.B
open Go.RowKit Go.Proofs.YteegleldmnokkaaW.PrintWords
theorem byte_at (j : Nat) (pre post : List Bool) (v : Nat) (hp : pre.length = 8 * j) (hv : v < 256) : byteAt (pre ++ (toBits 8 v ++ post)) j = v := by
  unfold byteAt
  have : ((List.range 8).map fun i => (pre ++ (toBits 8 v ++ post)).getD (8 * j + i) false) = toBits 8 v := by
    apply List.ext_getElem
    · simp [toBits_length]
    · intro i h1 h2
      rw [toBits_length] at h2
      rw [List.getElem_map, List.getElem_range, List.getD_eq_getElem?_getD, List.getElem?_append_right (by omega), show 8 * j + i - pre.length = i by omega, List.getElem?_append_left (by rw [toBits_length]; omega), List.getElem?_eq_getElem (by rw [toBits_length]; omega)]
      rfl
  rw [this, valOf_toBits]
  exact Nat.mod_eq_of_lt hv
theorem flat_length (us : List Nat) : (us.flatMap (toBits 8)).length = 8 * us.length := by
  induction us with
  | nil => rfl
  | cons u us ih => rw [List.flatMap_cons, List.length_append, toBits_length, ih, List.length_cons]; omega
theorem pack_flat (vs : List Nat) (hv : ∀ v ∈ vs, v < 256) : pack (vs.flatMap (toBits 8)) = vs := by
  apply List.ext_getElem
  · rw [pack_length, flat_length]; omega
  · intro j h1 h2
    have e : (pack (vs.flatMap (toBits 8)))[j] = byteAt (vs.flatMap (toBits 8)) j := by
      simp [pack]
    rw [e]
    have hsp : vs = vs.take j ++ (vs[j] :: vs.drop (j + 1)) := by rw [← List.drop_eq_getElem_cons h2, List.take_append_drop]
    have hb := byte_at j ((vs.take j).flatMap (toBits 8)) ((vs.drop (j + 1)).flatMap (toBits 8)) vs[j] (by rw [flat_length, List.length_take, Nat.min_eq_left (by omega)]) (hv _ (List.getElem_mem h2))
    rw [← hb]
    congr 1
    conv => lhs; rw [hsp, List.flatMap_append, List.flatMap_cons]
end Go.Proofs.Yteegleldmnokkaa.B
