/- What functions of the disk, and of the laws over it, do. Conditions: those that each theorem names. -/
import Derived.Test.YtanknokhbfijdaaD70
import Derived.Test.YtanknokhbfijdaaD23
set_option linter.unusedVariables false
set_option linter.unusedSimpArgs false
namespace Go.Proofs.Ytanknokhbfijdaa
open Go.Ab
set_option maxRecDepth 100000
set_option maxHeartbeats 1000000
theorem UQ.mono {m m' : Ds} (h : UQ m) (hq : m'.quota = m.quota) (hu : usedM m' ≤ usedM m) : UQ m' := by
  unfold UQ at h ⊢
  rw [hq]
  omega
theorem SimD.step {m : Ds} {r : Rf} (h : SimD m r) (h0 : 0 ≤ m.steps) (h1 : m.steps ≤ 1000000) : SimD (stepM m) (rStep r) := by
  refine ⟨h.q, by simp [rStep, stepM, h.s], ?_, ?_, ?_, ?_, h.mem, h.sorted, h.nodup, h.kept⟩
  · have ho := h.o
    simp only [rStep, stepM]
    cases hr : r.off with
    | true =>
      rw [hr] at ho
      unfold offB at ho ⊢
      simp only [Bool.true_or]
      rw [eq_comm, Bool.and_eq_true, decide_eq_true_eq, decide_eq_true_eq] at ho ⊢
      omega
    | false =>
      rw [hr] at ho
      have hp := h.p hr
      unfold offB at ho ⊢
      rw [eq_comm, Bool.and_eq_false_iff, decide_eq_false_iff_not, decide_eq_false_iff_not] at ho
      rw [Bool.eq_iff_iff]
      simp only [Bool.false_or, Bool.and_eq_true, decide_eq_true_eq]
      omega
  · simp only [rStep, stepM]
    intro hr
    rw [Bool.or_eq_false_iff] at hr
    have ho := h.o
    rw [hr.1] at ho
    have hp := h.p hr.1
    unfold offB at ho
    rw [eq_comm, Bool.and_eq_false_iff, decide_eq_false_iff_not, decide_eq_false_iff_not] at ho
    rw [Bool.and_eq_false_iff, decide_eq_false_iff_not, decide_eq_false_iff_not] at hr
    split <;> omega
  · simp only [rStep]; have := h.p0; split <;> omega
  · simp only [rStep]; have := h.p1; split <;> omega
theorem SimD.full {m : Ds} {r : Rf} (h : SimD m r) (hu : UQ m) (n : Nat) (there : Bool) (hn : n ≤ 100000) (hq : -9223372036854775808 ≤ m.quota ∧ m.quota ≤ 9223372036854775807) (hm : usedM m ≤ 10000000) : rFull r n there = fullM m n there := by
  unfold rFull fullM
  rw [h.used, h.len, h.q]
  congr 1
  unfold UQ at hu
  rcases Int.lt_or_le m.quota 0 with hq0 | hq0
  · have hu0 : usedM m = 0 := by omega
    rw [hu0]
    have e1 : IntKind.i64.wrap (m.quota - (0 : Nat)) = m.quota := by rw [wrap64 (by omega) (by omega)]; omega
    rw [e1, show decide (m.quota < ((0 : Nat) : Int)) = true from decide_eq_true (by omega), show decide (m.quota < (n : Int)) = true from decide_eq_true (by omega), Bool.or_true]
  · have e1 : IntKind.i64.wrap (m.quota - (usedM m : Int)) = m.quota - usedM m := wrap64 (by omega) (by omega)
    have e2 : IntKind.i64.wrap (m.quota - (n : Int)) = m.quota - n := wrap64 (by omega) (by omega)
    rw [e1, e2, Bool.eq_iff_iff]
    simp only [Bool.or_eq_true, Bool.and_eq_true, decide_eq_true_eq]
    omega
theorem modN_names {l : List PF} {name : List UInt8} {g : PF → PF} (hg : ∀ p, (g p).name = p.name) : (modN l name g).map (·.name) = l.map (·.name) := by
  unfold modN
  rw [List.map_map]
  refine List.map_congr_left fun p _ => ?_
  simp only [Function.comp]
  split
  · exact hg p
  · rfl
theorem insP_mem {x y : PF} : ∀ {l : List PF}, y ∈ insP x l ↔ y = x ∨ y ∈ l
  | [] => by simp [insP]
  | p :: l => by
    unfold insP
    split
    · rw [List.mem_cons, insP_mem, List.mem_cons]
      constructor
      · rintro (q | q | q)
        · exact .inr (.inl q)
        · exact .inl q
        · exact .inr (.inr q)
      · rintro (q | q | q)
        · exact .inr (.inl q)
        · exact .inl q
        · exact .inr (.inr q)
    · simp
theorem insP_sort {x : PF} : ∀ {l : List PF}, SortN (l.map (·.name)) → x.name ∉ l.map (·.name) → SortN ((insP x l).map (·.name))
  | [], _, _ => by simp [insP, SortN]
  | p :: l, h, hx => by
    unfold SortN at h
    rw [List.map_cons, List.pairwise_cons] at h
    rw [List.map_cons, List.mem_cons, not_or] at hx
    unfold insP
    split
    · rename_i hlt
      unfold SortN
      rw [List.map_cons, List.pairwise_cons]
      refine ⟨fun a ha => ?_, insP_sort h.2 hx.2⟩
      obtain ⟨y, hy, rfl⟩ := List.mem_map.1 ha
      rcases insP_mem.1 hy with q | q
      · subst q; exact hlt
      · exact h.1 _ (List.mem_map.2 ⟨y, q, rfl⟩)
    · rename_i hlt
      have hxp : strLt x.name p.name = true := by
        rcases lt_tri x.name p.name with q | q | q
        · exact q
        · exact absurd q hx.1
        · exact absurd q hlt
      unfold SortN
      rw [List.map_cons, List.map_cons, List.pairwise_cons]
      refine ⟨fun a ha => ?_, List.pairwise_cons.2 h⟩
      rcases List.mem_cons.1 ha with q | q
      · rw [q]; exact hxp
      · exact lt_trans' hxp (h.1 a q)
theorem mem_erase {l : List PF} (hn : (l.map (·.name)).Nodup) {name : List UInt8} {x : PF} : x ∈ l.eraseP (fun p => decide (name = p.name)) ↔ x ∈ l ∧ x.name ≠ name := by
  induction l with
  | nil => simp
  | cons p l ih =>
    rw [List.map_cons, List.nodup_cons] at hn
    rw [List.eraseP_cons]
    by_cases e : name = p.name
    · subst e
      simp only [decide_true, cond_true, List.mem_cons]
      constructor
      · intro hx
        exact ⟨.inr hx, fun e => hn.1 (List.mem_map.2 ⟨x, hx, e⟩)⟩
      · rintro ⟨q | q, hne⟩
        · subst q; exact absurd rfl hne
        · exact q
    · simp only [decide_eq_false e, cond_false, List.mem_cons, ih hn.2]
      constructor
      · rintro (q | q)
        · subst q; exact ⟨.inl rfl, fun h => e h.symm⟩
        · exact ⟨.inr q.1, q.2⟩
      · rintro ⟨q | q, hne⟩
        · exact .inl q
        · exact .inr ⟨q, hne⟩
theorem dropN_mem {l : List PF} {name : List UInt8} {x : PF} : x ∈ dropN' l name ↔ x ∈ l ∧ x.name ≠ name := by
  unfold dropN'
  rw [List.mem_filter]
  simp
theorem dropN_sub (l : List PF) (name : List UInt8) : ((dropN' l name).map (·.name)).Sublist (l.map (·.name)) := List.filter_sublist.map _
theorem sort_sub {a b : List (List UInt8)} (h : a.Sublist b) (hs : SortN b) : SortN a := List.Pairwise.sublist h hs
theorem rUsed_insP (x : PF) : ∀ l : List PF, rUsed (insP x l) = x.bytes.length + rUsed l
  | [] => by simp [insP, rUsed]
  | p :: l => by
    have ih := rUsed_insP x l
    unfold insP
    split
    · simp only [rUsed, List.map_cons, List.sum_cons] at ih ⊢; omega
    · simp [rUsed]
theorem rUsed_cons (p : PF) (l : List PF) : rUsed (p :: l) = p.bytes.length + rUsed l := by simp [rUsed]
theorem dropN_cons (p : PF) (l : List PF) (name : List UInt8) : dropN' (p :: l) name = if p.name = name then dropN' l name else p :: dropN' l name := by
  unfold dropN'
  rw [List.filter_cons]
  by_cases e : p.name = name <;> simp [e]
theorem rUsed_drop (l : List PF) (name : List UInt8) : rUsed (dropN' l name) ≤ rUsed l ∧ ∀ x ∈ l, x.name = name → rUsed (dropN' l name) + x.bytes.length ≤ rUsed l := by
  induction l with
  | nil => exact ⟨Nat.le_refl _, fun x hx => by cases hx⟩
  | cons p l ih =>
    rw [dropN_cons, rUsed_cons]
    have i1 := ih.1
    by_cases e : p.name = name
    · rw [if_pos e]
      refine ⟨by omega, fun x hx hn => ?_⟩
      rcases List.mem_cons.1 hx with q | q
      · subst q; omega
      · have := ih.2 x q hn; omega
    · rw [if_neg e, rUsed_cons]
      refine ⟨by omega, fun x hx hn => ?_⟩
      rcases List.mem_cons.1 hx with q | q
      · subst q; exact absurd hn e
      · have := ih.2 x q hn; omega

/-! ### Append -/
theorem SimD.appendE {m : Ds} {r : Rf} (h : SimD m r) (hu : UQ m) (h0 : 0 ≤ m.steps) (h1 : m.steps ≤ 1000000) (name b : List UInt8) (hn : b.length ≤ 100000) (hq : -9223372036854775808 ≤ m.quota ∧ m.quota ≤ 9223372036854775807) (hm : usedM m ≤ 10000000) :
    rAppendE r name b = appendR m name b := by
  unfold rAppendE appendR
  rw [(h.step h0 h1).o, h.hasF, h.full hu _ _ hn hq hm]
  rfl
theorem SimD.append {m : Ds} {r : Rf} (h : SimD m r) (hu : UQ m) (h0 : 0 ≤ m.steps) (h1 : m.steps ≤ 1000000) (name b : List UInt8) (hn : b.length ≤ 100000) (hq : -9223372036854775808 ≤ m.quota ∧ m.quota ≤ 9223372036854775807) (hm : usedM m ≤ 10000000)
    (hnd : ((appendM m name b).files.map (·.name)).Nodup) : SimD (appendM m name b) (rAppendM r name b) ∧ UQ (appendM m name b) := by
  have hE := h.appendE hu h0 h1 name b hn hq hm
  have hs := h.step h0 h1
  cases he : appendR m name b == 0 with
  | false =>
    unfold appendM rAppendM
    rw [hE, he]
    exact ⟨hs, hu⟩
  | true =>
    have hR : appendR m name b = 0 := by simpa using he
    have hus := (usedM_app h.nodup name b hR).1
    refine ⟨?_, ?_⟩
    · unfold appendM at hnd ⊢
      unfold rAppendM
      rw [he] at hnd ⊢
      rw [hE, he]
      simp only [cond_true] at hnd ⊢
      refine ⟨hs.q, hs.s, hs.o, hs.p, hs.p0, hs.p1, ?_, ?_, hnd, ?_⟩
      · intro x
        simp only []
        unfold addP
        rw [h.hasF]
        cases hf : (findM m name).isSome with
        | true =>
          unfold findM at hf
          rw [hf]
          simp only [cond_true, if_true]
          unfold modN
          simp only [List.mem_map, h.mem]
        | false =>
          unfold findM at hf
          rw [hf]
          simp only [cond_false, Bool.false_eq_true, if_false]
          have hno : ∀ y ∈ m.files, y.name ≠ name := by
            intro y hy e
            rw [Option.isSome_eq_false_iff, Option.isNone_iff_eq_none, List.find?_eq_none] at hf
            exact hf y hy (by simp [e])
          unfold modN
          simp only [List.mem_map, insP_mem, List.mem_append, List.mem_singleton]
          constructor
          · rintro ⟨y, q | q, rfl⟩
            · subst q; right; simp
            · have := hno y ((h.mem y).1 q)
              rw [if_neg this]; left; exact (h.mem y).1 q
          · rintro (q | q)
            · exact ⟨x, .inr ((h.mem x).2 q), by rw [if_neg (hno x q)]⟩
            · subst q; exact ⟨⟨name, [], 0⟩, .inl rfl, by simp⟩
      · simp only []
        rw [modN_names (g := fun p => { p with bytes := p.bytes ++ b }) (fun _ => rfl)]
        cases hf : hasN r.files name with
        | true => exact h.sorted
        | false => exact insP_sort h.sorted (fun q => by rw [has_mem.2 q] at hf; cases hf)
      · intro x hx
        simp only [] at hx
        unfold modN at hx
        obtain ⟨y, hy, rfl⟩ := List.mem_map.1 hx
        have hky : y.kept ≤ y.bytes.length := by
          cases hf : hasN r.files name with
          | true => rw [hf] at hy; exact h.kept y hy
          | false =>
            rw [hf] at hy
            rcases insP_mem.1 hy with q | q
            · subst q; exact Nat.le_refl _
            · exact h.kept y q
        split
        · simp; omega
        · exact hky
    · have hfull : fullM m b.length (findM m name).isSome = false := by
        unfold appendR at hR
        cases h1 : offB (m.steps + 1) m.off with
        | true => rw [h1] at hR; simp at hR
        | false =>
          rw [h1] at hR
          cases h2 : okName name with
          | false => rw [h2] at hR; simp at hR
          | true =>
            rw [h2] at hR
            cases h3 : fullM m b.length (findM m name).isSome with
            | true => rw [h3] at hR; simp at hR
            | false => rfl
      unfold fullM at hfull
      rw [Bool.or_eq_false_iff, decide_eq_false_iff_not] at hfull
      have hf1 := hfull.1
      unfold UQ at hu ⊢
      rw [hus, (appM_fields m name b).2.2]
      rcases Int.lt_or_le m.quota 0 with hq0 | hq0
      · have hu0 : usedM m = 0 := by omega
        rw [hu0] at hf1
        rw [wrap64 (by omega) (by omega)] at hf1
        omega
      · rw [wrap64 (by omega) (by omega)] at hf1
        omega

/-! ### Sync, Remove, Rename -/
theorem SimD.err {m : Ds} {r : Rf} (h : SimD m r) (h0 : 0 ≤ m.steps) (h1 : m.steps ≤ 1000000) (name : List UInt8) : rErr r name = errM m name := by
  unfold rErr errM
  rw [(h.step h0 h1).o, h.hasF]
  cases findM m name <;> rfl
theorem SimD.sync {m : Ds} {r : Rf} (h : SimD m r) (hu : UQ m) (h0 : 0 ≤ m.steps) (h1 : m.steps ≤ 1000000) (name : List UInt8) (hnd : ((syncM m name).files.map (·.name)).Nodup) : SimD (syncM m name) (rSyncM r name) ∧ UQ (syncM m name) := by
  have hE := h.err h0 h1 name
  have hs := h.step h0 h1
  cases he : errM m name == 0 with
  | false => unfold syncM rSyncM; rw [hE, he]; exact ⟨hs, hu⟩
  | true =>
    unfold syncM at hnd ⊢
    unfold rSyncM
    rw [he] at hnd ⊢
    rw [hE, he]
    simp only [cond_true] at hnd ⊢
    refine ⟨⟨hs.q, hs.s, hs.o, hs.p, hs.p0, hs.p1, fun x => ?_, ?_, hnd, fun x hx => ?_⟩, hu.mono rfl (Nat.le_of_eq ?_)⟩
    · simp only []
      unfold modN
      simp only [List.mem_map, h.mem]
    · simp only []
      rw [modN_names (g := fun p => { p with kept := p.bytes.length }) (fun _ => rfl)]
      exact h.sorted
    · simp only [] at hx
      unfold modN at hx
      obtain ⟨y, hy, rfl⟩ := List.mem_map.1 hx
      split
      · exact Nat.le_refl _
      · exact h.kept y hy
    · unfold usedM
      simp only [List.map_map]
      congr 1
      refine List.map_congr_left fun p _ => ?_
      simp only [Function.comp]
      split <;> rfl
theorem SimD.remove {m : Ds} {r : Rf} (h : SimD m r) (hu : UQ m) (h0 : 0 ≤ m.steps) (h1 : m.steps ≤ 1000000) (name : List UInt8) (hnd : ((removeM m name).files.map (·.name)).Nodup) : SimD (removeM m name) (rRemoveM r name) ∧ UQ (removeM m name) := by
  have hE := h.err h0 h1 name
  have hs := h.step h0 h1
  cases he : errM m name == 0 with
  | false => unfold removeM rRemoveM; rw [hE, he]; exact ⟨hs, hu⟩
  | true =>
    unfold removeM at hnd ⊢
    unfold rRemoveM
    rw [he] at hnd ⊢
    rw [hE, he]
    simp only [cond_true] at hnd ⊢
    have hS : SimD { stepM m with files := m.files.eraseP fun p => decide (name = p.name) } { rStep r with files := dropN' r.files name } := by
      refine ⟨hs.q, hs.s, hs.o, hs.p, hs.p0, hs.p1, fun x => ?_, ?_, hnd, fun x hx => ?_⟩
      · simp only []
        rw [dropN_mem, mem_erase h.nodup, h.mem]
      · exact sort_sub (dropN_sub _ _) h.sorted
      · exact h.kept x (dropN_mem.1 hx).1
    refine ⟨hS, hu.mono rfl ?_⟩
    have := (rUsed_drop r.files name).1
    rw [← hS.used, ← h.used]
    exact this
theorem SimD.renameE {m : Ds} {r : Rf} (h : SimD m r) (h0 : 0 ≤ m.steps) (h1 : m.steps ≤ 1000000) (a b : List UInt8) : rRenameE r a b = renameR m a b := by
  unfold rRenameE renameR
  rw [(h.step h0 h1).o, h.hasF]
  cases findM m a <;> cases okName b <;> rfl
theorem SimD.rename {m : Ds} {r : Rf} (h : SimD m r) (hu : UQ m) (h0 : 0 ≤ m.steps) (h1 : m.steps ≤ 1000000) (a b : List UInt8) (hnd : ((renameM m a b).files.map (·.name)).Nodup) : SimD (renameM m a b) (rRenameM r a b) ∧ UQ (renameM m a b) := by
  have hE := h.renameE h0 h1 a b
  have hs := h.step h0 h1
  cases he : renameR m a b == 0 with
  | false => unfold renameM rRenameM; rw [hE, he]; exact ⟨hs, hu⟩
  | true =>
    unfold renameM at hnd ⊢
    unfold rRenameM
    rw [he] at hnd ⊢
    rw [hE, he]
    simp only [cond_true] at hnd ⊢
    have hf0 := h.find a
    cases hf : findM m a with
    | none =>
      exfalso
      unfold renameR at he
      rw [hf] at he
      revert he
      cases okName b <;> cases offB (m.steps + 1) m.off <;> decide
    | some f =>
      rw [hf] at hf0 hnd
      rw [hf0]
      simp only [] at hnd ⊢
      have hfm : f ∈ m.files := List.mem_of_find?_eq_some hf
      have hfn : f.name = a := by have := List.find?_some hf; simp only [decide_eq_true_eq] at this; exact this.symm
      have hmem : ∀ x, x ∈ putP (m.files.eraseP fun p => decide (a = p.name)) { f with name := b } ↔ x = { f with name := b } ∨ (x ∈ m.files ∧ x.name ≠ a ∧ x.name ≠ b) := by
        intro x
        unfold putP
        split
        · rename_i hsome
          rw [List.mem_map]
          constructor
          · rintro ⟨y, hy, rfl⟩
            rw [mem_erase h.nodup] at hy
            split
            · exact .inl rfl
            · rename_i hne; exact .inr ⟨hy.1, hy.2, hne⟩
          · rintro (q | ⟨q1, q2, q3⟩)
            · subst q
              obtain ⟨y, hy⟩ := Option.isSome_iff_exists.1 hsome
              refine ⟨y, List.mem_of_find?_eq_some hy, ?_⟩
              have := List.find?_some hy
              simp only [decide_eq_true_eq] at this
              rw [if_pos this.symm]
            · exact ⟨x, (mem_erase h.nodup).2 ⟨q1, q2⟩, by rw [if_neg q3]⟩
        · rename_i hnone
          rw [List.mem_append, List.mem_singleton, mem_erase h.nodup]
          have hno : ∀ y ∈ m.files, y.name ≠ a → y.name ≠ b := by
            intro y hy hya e
            have hnone' : (List.find? (fun p => decide (b = p.name)) (m.files.eraseP fun p => decide (a = p.name))) = none := by
              cases hq : (List.find? (fun p => decide (b = p.name)) (m.files.eraseP fun p => decide (a = p.name))) with
              | none => rfl
              | some z => exact absurd (by simp [hq]) hnone
            rw [List.find?_eq_none] at hnone'
            exact hnone' y ((mem_erase h.nodup).2 ⟨hy, hya⟩) (by simp [e])
          constructor
          · rintro (q | q)
            · exact .inr ⟨q.1, q.2, hno x q.1 q.2⟩
            · exact .inl q
          · rintro (q | q)
            · exact .inr q
            · exact .inl ⟨q.1, q.2.1⟩
      by_cases hab : a = b
      · rw [if_pos hab]
        have hS : SimD { stepM m with files := putP (m.files.eraseP fun p => decide (a = p.name)) { f with name := b } } (rStep r) := by
          refine ⟨hs.q, hs.s, hs.o, hs.p, hs.p0, hs.p1, fun x => ?_, h.sorted, hnd, h.kept⟩
          simp only [rStep]
          rw [hmem, h.mem]
          have hff : ({ f with name := b } : PF) = f := by rw [← hab, ← hfn]
          rw [hff]
          constructor
          · intro hx
            by_cases e : x.name = a
            · left
              have h1 := find_name h.nodup hx
              have h2 := find_name h.nodup hfm
              rw [e, ← hfn] at h1
              rw [h1] at h2
              cases h2; rfl
            · exact .inr ⟨hx, e, by rw [← hab]; exact e⟩
          · rintro (q | q)
            · rw [q]; exact hfm
            · exact q.1
        refine ⟨hS, hu.mono rfl (Nat.le_of_eq ?_)⟩
        rw [← hS.used, ← h.used]
        rfl
      · rw [if_neg hab]
        have hS : SimD { stepM m with files := putP (m.files.eraseP fun p => decide (a = p.name)) { f with name := b } } { rStep r with files := insP { f with name := b } (dropN' (dropN' r.files a) b) } := by
          refine ⟨hs.q, hs.s, hs.o, hs.p, hs.p0, hs.p1, fun x => ?_, ?_, hnd, fun x hx => ?_⟩
          · simp only []
            rw [hmem, insP_mem, dropN_mem, dropN_mem, h.mem]
            simp only [and_assoc]
          · refine insP_sort (sort_sub (dropN_sub _ _) (sort_sub (dropN_sub _ _) h.sorted)) (fun q => ?_)
            obtain ⟨y, hy, hyn⟩ := List.mem_map.1 q
            exact (dropN_mem.1 hy).2 hyn
          · rcases insP_mem.1 hx with q | q
            · subst q; exact h.kept f ((h.mem f).2 hfm)
            · exact h.kept x (dropN_mem.1 (dropN_mem.1 q).1).1
        refine ⟨hS, hu.mono rfl ?_⟩
        rw [← hS.used, ← h.used]
        simp only []
        rw [rUsed_insP]
        have h1 := (rUsed_drop r.files a).2 f ((h.mem f).2 hfm) hfn
        have h2 := (rUsed_drop (dropN' r.files a) b).1
        simp only []
        omega

/-! ### Power, Crash -/
theorem SimD.power {m : Ds} {r : Rf} (h : SimD m r) (h0 : 0 ≤ m.steps) (at0 : Int) (ha : at0 ≤ 9223372036854775807) : SimD { m with off := powerAt m.steps m.off at0 } (rPowerM r at0) := by
  have ho := h.o
  unfold powerAt rPowerM
  rw [← ho]
  cases hr : r.off with
  | true =>
    simp only [cond_true]
    exact h
  | false =>
    simp only [cond_false]
    rw [hr] at ho
    refine ⟨h.q, h.s, ?_, ?_, ?_, ?_, h.mem, h.sorted, h.nodup, h.kept⟩
    · simp only [hr]
      unfold offB
      rw [eq_comm, Bool.and_eq_false_iff, decide_eq_false_iff_not, decide_eq_false_iff_not]
      split
      · left; omega
      · right; split <;> omega
    · intro _
      simp only []
      split <;> split <;> first | omega | (split <;> omega)
    · simp only []; split <;> omega
    · simp only []; split <;> omega
theorem crash_perm : ∀ (l pre fs : List PF) (cs : List UInt8), ((pre ++ l).map (·.name)).Nodup → (pre ++ l).Perm fs → (pre ++ crashR cs l).Perm (crashL (l.map (·.name)) cs fs)
  | [], pre, fs, cs, _, h => by simpa [crashR, crashL] using h
  | f :: l, pre, fs, cs, hn, h => by
    rw [List.map_cons]
    simp only [crashL, crashR]
    have hg := h.map (fun p => if p.name = f.name then crash1 (cs.headD 0) p else p)
    have hother : ∀ x ∈ pre ++ l, x.name ≠ f.name := by
      intro x hx e
      have h1 : ((f :: (pre ++ l)).map (·.name)).Nodup := ((List.perm_middle.map _).nodup_iff).1 hn
      rw [List.map_cons, List.nodup_cons] at h1
      exact h1.1 (List.mem_map.2 ⟨x, hx, e⟩)
    have hid : ∀ {k : List PF}, (∀ x ∈ k, x.name ≠ f.name) → k.map (fun p => if p.name = f.name then crash1 (cs.headD 0) p else p) = k := by
      intro k hk
      conv => rhs; rw [← List.map_id k]
      exact List.map_congr_left fun x hx => by rw [if_neg (hk x hx)]; rfl
    rw [List.map_append, List.map_cons, hid (fun x hx => hother x (List.mem_append_left _ hx)), hid (fun x hx => hother x (List.mem_append_right _ hx)), if_pos rfl] at hg
    have en : ((pre ++ [crash1 (cs.headD 0) f]) ++ l).map (·.name) = (pre ++ f :: l).map (·.name) := by simp [crash1]
    have := crash_perm l (pre ++ [crash1 (cs.headD 0) f]) (fs.map fun p => if p.name = f.name then crash1 (cs.headD 0) p else p) cs.tail (by rw [en]; exact hn) (by rw [List.append_assoc]; exact hg)
    rw [List.append_assoc] at this
    exact this
theorem crashR_names : ∀ (cs : List UInt8) (l : List PF), (crashR cs l).map (·.name) = l.map (·.name)
  | _, [] => rfl
  | cs, f :: l => by rw [crashR, List.map_cons, List.map_cons, crashR_names]; rfl
theorem crashR_used : ∀ (cs : List UInt8) (l : List PF), rUsed (crashR cs l) ≤ rUsed l
  | _, [] => Nat.le_refl _
  | cs, f :: l => by
    have := crashR_used cs.tail l
    simp only [rUsed, crashR, List.map_cons, List.sum_cons] at this ⊢
    have h2 : (crash1 (cs.headD 0) f).bytes.length ≤ f.bytes.length := by simp [crash1]; omega
    omega
theorem crashR_kept : ∀ (cs : List UInt8) (l : List PF), ∀ x ∈ crashR cs l, x.kept ≤ x.bytes.length
  | _, [], x, h => by cases h
  | cs, f :: l, x, h => by
    rcases List.mem_cons.1 h with q | q
    · subst q; exact Nat.le_refl _
    · exact crashR_kept cs.tail l x q
theorem SimD.crash {m : Ds} {r : Rf} (h : SimD m r) (hu : UQ m) (cs : List UInt8) (hnd : ((crashM m cs).files.map (·.name)).Nodup) : SimD (crashM m cs) (rCrashM r cs) ∧ UQ (crashM m cs) := by
  have hp := crash_perm r.files [] m.files cs h.sorted.nodup h.perm
  have hS : SimD (crashM m cs) (rCrashM r cs) := by
    refine ⟨h.q, h.s, ?_, fun _ => .inl ⟨Int.le_refl _, rfl⟩, Int.le_refl _, by simp [rCrashM], fun x => ?_, ?_, hnd, crashR_kept cs r.files⟩
    · simp [rCrashM, crashM, offB]
    · simp only [rCrashM, crashM]
      rw [h.names]
      exact hp.mem_iff
    · simp only [rCrashM]
      rw [crashR_names]
      exact h.sorted
  refine ⟨hS, hu.mono rfl ?_⟩
  rw [← hS.used, ← h.used]
  exact crashR_used cs r.files
end Go.Proofs.Ytanknokhbfijdaa
