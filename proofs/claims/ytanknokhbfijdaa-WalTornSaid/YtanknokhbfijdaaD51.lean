/- What functions of the disk, and of the laws over it, do. Conditions: those that each theorem names. -/
import Derived.Test.YtanknokhbfijdaaD41
import Derived.Test.YtanknokhbfijdaaKc
set_option linter.unusedVariables false
set_option linter.unusedSimpArgs false
namespace Go.Proofs.Ytanknokhbfijdaa
open Go.Ab
set_option maxRecDepth 100000
set_option maxHeartbeats 1000000
attribute [local irreducible] Run CallOK DetCall Br PreP BothP AncOr Onw NeedRows NeedMap NeedRow NeedLen NilP NeedIter RoundP EntryP EqP OptP NewP NewSlice NewMade AppTo DrawG anc drawB
theorem framesL_cons (s : List UInt8) (l : List (List UInt8)) : framesL (s :: l) = frameL s ++ framesL l := by simp [framesL]
theorem framesL_app (a b : List (List UInt8)) : framesL (a ++ b) = framesL a ++ framesL b := by simp [framesL]
theorem framesL_succ {l : List (List UInt8)} {n : Nat} {s : List UInt8} (h : l[n]? = some s) : framesL (l.take (n + 1)) = framesL (l.take n) ++ frameL s := by
  rw [List.take_add_one, h, framesL_app]; simp [framesL]
theorem nextL_cut (s rest : List UInt8) (m : Nat) (hs : s.length ≤ 4000) (hm : m < s.length + 8) : nextL ((frameL s ++ rest).take m) = none := by
  have hl := frameL_len s
  unfold nextL
  have hlen : ((frameL s ++ rest).take m).length = m := by rw [List.length_take, List.length_append]; omega
  rw [hlen]
  split
  · rfl
  · rename_i h8
    have e1 : ((frameL s ++ rest).take m).take 4 = putL s.length 4 := by
      rw [List.take_take, Nat.min_eq_left (by omega)]
      unfold frameL
      rw [List.append_assoc, List.append_assoc, take_pre (putL_len _ _)]
    rw [e1, valN_put _ (by omega)]
    rw [if_pos]
    right; left
    rw [List.length_drop, hlen]; omega
theorem scanL_cut (l : List (List UInt8)) (n k : Nat) (hs : ∀ s ∈ l, s.length ≤ 4000) (h1 : (framesL (l.take n)).length ≤ k) (h2 : ∀ s, l[n]? = some s → k < (framesL (l.take n)).length + s.length + 8) (hk : k ≤ (framesL l).length) :
    (scanL ((framesL l).take k)).1 = l.take n ∧ (scanL ((framesL l).take k)).2.length = k - (framesL (l.take n)).length := by
  have e : framesL l = framesL (l.take n) ++ framesL (l.drop n) := by rw [← framesL_app, List.take_append_drop]
  have hln : (framesL l).length = (framesL (l.take n)).length + (framesL (l.drop n)).length := by rw [e, List.length_append]
  rw [e, List.take_append, List.take_of_length_le h1, scanL_frames _ _ (fun s h => hs s (List.mem_of_mem_take h))]
  have hX : scanL ((framesL (l.drop n)).take (k - (framesL (l.take n)).length)) = ([], (framesL (l.drop n)).take (k - (framesL (l.take n)).length)) := by
    cases hx : l[n]? with
    | none =>
      have : l.drop n = [] := List.drop_eq_nil_of_le (by rw [List.getElem?_eq_none_iff] at hx; exact hx)
      rw [this]
      exact scanL_short _ (by simp [framesL])
    | some s =>
      have hd : l.drop n = s :: l.drop (n + 1) := by
        obtain ⟨h, he⟩ := List.getElem?_eq_some_iff.1 hx
        rw [List.drop_eq_getElem_cons h, he]
      rw [hd, framesL_cons]
      exact scanL_none (nextL_cut s _ _ (hs s (List.mem_of_getElem? hx)) (by have := h2 s hx; omega))
  rw [hX]
  refine ⟨by simp, ?_⟩
  simp only [List.length_take]
  omega
def intRow (n : Nat) : List P := [.int .i64 (n : Nat)]
def endsL (l : List (List UInt8)) (n : Nat) : List Nat := (List.range n).map fun j => (framesL (l.take (j + 1))).length
theorem endsL_succ (l : List (List UInt8)) (n : Nat) : endsL l (n + 1) = endsL l n ++ [(framesL (l.take (n + 1))).length] := by
  unfold endsL; rw [List.range_succ, List.map_append]; rfl
theorem endsL_len (l : List (List UInt8)) (n : Nat) : (endsL l n).length = n := by simp [endsL]
theorem endsL_at (l : List (List UInt8)) {n j : Nat} (h : j < n) : (endsL l n)[j]? = some (framesL (l.take (j + 1))).length := by
  unfold endsL; rw [List.getElem?_map, List.getElem?_range h]; rfl
theorem framesL_small (l : List (List UInt8)) (h : ∀ s ∈ l, s.length ≤ 300) : (framesL l).length ≤ l.length * 308 := by
  induction l with
  | nil => simp [framesL]
  | cons s l ih =>
    rw [framesL_cons, List.length_append, frameL_len]
    have := ih (fun x hx => h x (List.mem_cons_of_mem _ hx))
    have := h s List.mem_cons_self
    simp only [List.length_cons]; omega
end Go.Proofs.Ytanknokhbfijdaa
