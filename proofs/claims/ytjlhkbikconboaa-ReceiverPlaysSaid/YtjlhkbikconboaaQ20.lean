/- What functions of the receiver, of labels, rows, batches, and of the laws over them, do. Conditions: those that each theorem names. -/
import Derived.Test.YtjlhkbikconboaaQ19
set_option linter.unusedVariables false
set_option linter.unusedSimpArgs false
namespace Go.Proofs.Ytjlhkbikconboaa
open Go.Ab
set_option maxRecDepth 100000
set_option maxHeartbeats 1000000
def StrictB (L : List Bt) : Prop := L.Pairwise (fun a b => a.seq < b.seq)
theorem strict_unique : ∀ (L M : List Bt), StrictB L → StrictB M → (∀ b, b ∈ L ↔ b ∈ M) → L = M
  | [], [], _, _, _ => rfl
  | [], c :: M, _, _, h => by have := (h c).2 (List.mem_cons_self ..); cases this
  | a :: L, [], _, _, h => by have := (h a).1 (List.mem_cons_self ..); cases this
  | a :: L, c :: M, h1, h2, h => by
    have s1 := List.pairwise_cons.1 h1
    have s2 := List.pairwise_cons.1 h2
    have hac : a = c := by
      rcases List.mem_cons.1 ((h a).1 (List.mem_cons_self ..)) with q | q
      · exact q
      · rcases List.mem_cons.1 ((h c).2 (List.mem_cons_self ..)) with p | p
        · exact p.symm
        · have q1 := s2.1 a q
          have q2 := s1.1 c p
          omega
    subst hac
    refine congrArg (a :: ·) (strict_unique L M s1.2 s2.2 (fun b => ?_))
    constructor
    · intro hb
      rcases List.mem_cons.1 ((h b).1 (List.mem_cons_of_mem _ hb)) with q | q
      · subst q; have := s1.1 b hb; omega
      · exact q
    · intro hb
      rcases List.mem_cons.1 ((h b).2 (List.mem_cons_of_mem _ hb)) with q | q
      · subst q; have := s2.1 b hb; omega
      · exact q
theorem find_seq {l : List Bt} (hn : (l.map (·.seq)).Nodup) {b : Bt} (hb : b ∈ l) : l.find? (fun c => decide (b.seq = c.seq)) = some b := by
  induction l with
  | nil => cases hb
  | cons c l ih =>
    rw [List.map_cons, List.nodup_cons] at hn
    rw [List.find?_cons]
    rcases List.mem_cons.1 hb with q | q
    · subst q; simp
    · have hne : b.seq ≠ c.seq := fun e => hn.1 (List.mem_map.2 ⟨b, q, e⟩)
      simp only [decide_eq_false hne]
      exact ih hn.2 q
theorem allB_mem {l : List Bt} (hn : (l.map (·.seq)).Nodup) (b : Bt) : b ∈ allB l ↔ b ∈ l := by
  refine ⟨all_mem, fun hb => ?_⟩
  unfold allB
  exact List.mem_filterMap.2 ⟨b.seq, by simp; exact ⟨b, hb, rfl⟩, find_seq hn hb⟩
theorem allB_map (l : List Bt) : (allB l).map (·.seq) = (l.map (·.seq)).mergeSort leI := by
  unfold allB
  have h : ∀ n ∈ (l.map (·.seq)).mergeSort leI, ∃ b, l.find? (fun b => decide (n = b.seq)) = some b ∧ b.seq = n := fun n hn => by
    obtain ⟨i, hi⟩ := List.mem_iff_getElem?.1 hn
    obtain ⟨b, _, h1, h2⟩ := all_get hi
    exact ⟨b, h2, h1⟩
  generalize (l.map (·.seq)).mergeSort leI = ks at h
  induction ks with
  | nil => rfl
  | cons n ks ih =>
    obtain ⟨b, h1, h2⟩ := h n (List.mem_cons_self ..)
    rw [List.filterMap_cons, h1]
    simp only [List.map_cons, h2]
    rw [ih (fun m hm => h m (List.mem_cons_of_mem _ hm))]
theorem allB_strict {l : List Bt} (hn : (l.map (·.seq)).Nodup) : StrictB (allB l) := by
  have h1 : ((l.map (·.seq)).mergeSort leI).Pairwise (fun a b => leI a b = true) := List.pairwise_mergeSort (fun a b c => by simp [leI]; omega) (fun a b => by simp [leI]; omega) _
  have h2 : ((l.map (·.seq)).mergeSort leI).Nodup := (List.mergeSort_perm _ _).nodup_iff.2 hn
  have h3 : ((l.map (·.seq)).mergeSort leI).Pairwise (fun a b => a < b) := by
    refine List.Pairwise.imp₂ ?_ h1 h2
    intro a b q1 q2
    simp [leI] at q1
    omega
  rw [← allB_map] at h3
  exact List.pairwise_map.1 h3
theorem insert_strict {L : List Bt} {b : Bt} {i : Nat} (h : StrictB L) (hi : i ≤ L.length) (hlt : ∀ k a, k < i → L[k]? = some a → a.seq < b.seq) (hge : ∀ a, L[i]? = some a → b.seq < a.seq) : StrictB (L.take i ++ (b :: L.drop i)) := by
  have hlt2 : ∀ a ∈ L.take i, a.seq < b.seq := fun a ha => by
    obtain ⟨k, hk⟩ := List.mem_iff_getElem?.1 ha
    rw [List.getElem?_take] at hk
    split at hk
    · rename_i hki; exact hlt k a hki hk
    · cases hk
  have hgt2 : ∀ a ∈ L.drop i, b.seq < a.seq := fun a ha => by
    have hd : StrictB (L.drop i) := List.Pairwise.sublist (List.drop_sublist i L) h
    cases hl : L.drop i with
    | nil => rw [hl] at ha; cases ha
    | cons c t =>
      have hc : L[i]? = some c := by
        have : (L.drop i)[0]? = some c := by rw [hl]; rfl
        rw [List.getElem?_drop] at this; simpa using this
      have q := hge c hc
      rw [hl] at ha hd
      rcases List.mem_cons.1 ha with p | p
      · subst p; exact q
      · have := (List.pairwise_cons.1 hd).1 a p; omega
  refine List.pairwise_append.2 ⟨List.Pairwise.sublist (List.take_sublist i L) h, List.pairwise_cons.2 ⟨hgt2, List.Pairwise.sublist (List.drop_sublist i L) h⟩, fun x hx y hy => ?_⟩
  have q1 := hlt2 x hx
  rcases List.mem_cons.1 hy with p | p
  · subst p; exact q1
  · have := hgt2 y p; omega
/-- The document's list goes on as the receiver's. -/
theorem all_insert {l : List Bt} {b : Bt} {i : Nat} (hn : ((l ++ [b]).map (·.seq)).Nodup) (hi : i ≤ (allB l).length) (hlt : ∀ k a, k < i → (allB l)[k]? = some a → a.seq < b.seq) (hge : ∀ a, (allB l)[i]? = some a → ¬ a.seq < b.seq) :
    (allB l).take i ++ (b :: (allB l).drop i) = allB (l ++ [b]) := by
  have hnl : (l.map (·.seq)).Nodup := by
    rw [List.map_append, List.nodup_append] at hn; exact hn.1
  have hnb : b.seq ∉ l.map (·.seq) := fun q => by
    rw [List.map_append, List.nodup_append] at hn
    exact hn.2.2 _ q b.seq (by simp) rfl
  refine strict_unique _ _ (insert_strict (allB_strict hnl) hi hlt (fun a ha => ?_)) (allB_strict hn) (fun c => ?_)
  · have q1 := hge a ha
    have q2 : a.seq ≠ b.seq := fun e => hnb (List.mem_map.2 ⟨a, all_mem (List.mem_of_getElem? ha), e⟩)
    omega
  · rw [allB_mem hn, List.mem_append, List.mem_append, List.mem_singleton, ← allB_mem hnl]
    have e : c ∈ allB l ↔ c ∈ (allB l).take i ∨ c ∈ (allB l).drop i := by rw [← List.mem_append, List.take_append_drop]
    rw [e, List.mem_cons]
    constructor
    · rintro (h | h | h)
      · exact .inl (.inl h)
      · exact .inr h
      · exact .inl (.inr h)
    · rintro ((h | h) | h)
      · exact .inl h
      · exact .inr (.inr h)
      · exact .inr (.inl h)
theorem IsMark.congr {k1 k2 : List Int} {low m : Int} (h : ∀ j, j ∈ k1 ↔ j ∈ k2) (hm : IsMark k1 low m) : IsMark k2 low m :=
  ⟨hm.1, fun j h1 h2 => (h j).1 (hm.2.1 j h1 h2), fun q => hm.2.2 ((h _).2 q)⟩
theorem all_keys {l : List Bt} (j : Int) : j ∈ (allB l).map (·.seq) ↔ j ∈ l.map (·.seq) := by
  rw [allB_map]; simp
end Go.Proofs.Ytjlhkbikconboaa
