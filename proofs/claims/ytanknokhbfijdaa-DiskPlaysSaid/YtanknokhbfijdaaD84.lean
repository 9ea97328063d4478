/- What functions of the disk, and of the laws over it, do. Conditions: those that each theorem names. -/
import Derived.Test.YtanknokhbfijdaaD83
set_option linter.unusedVariables false
set_option linter.unusedSimpArgs false
namespace Go.Proofs.Ytanknokhbfijdaa
open Go.Ab
set_option maxRecDepth 100000
set_option maxHeartbeats 1000000
/-! ### What stays small -/
theorem rUsed_modN {l : List PF} {name b : List UInt8} (hn : (l.map (·.name)).Nodup) : rUsed (modN l name fun p => { p with bytes := p.bytes ++ b }) ≤ rUsed l + b.length := by
  induction l with
  | nil => simp [modN, rUsed]
  | cons p l ih =>
    rw [List.map_cons, List.nodup_cons] at hn
    have h1 := ih hn.2
    show rUsed ((if p.name = name then _ else p) :: modN l name _) ≤ _
    rw [rUsed_cons, rUsed_cons]
    by_cases e : p.name = name
    · rw [if_pos e]
      have h2 : modN l name (fun p => { p with bytes := p.bytes ++ b }) = l := by
        unfold modN
        conv => rhs; rw [← List.map_id l]
        refine List.map_congr_left fun y hy => ?_
        rw [if_neg (fun e2 => hn.1 (List.mem_map.2 ⟨y, hy, by rw [e2, e]⟩))]; rfl
      rw [h2]; simp; omega
    · rw [if_neg e]; omega
theorem rUsed_keep (l : List PF) (name : List UInt8) : rUsed (modN l name fun p => { p with kept := p.bytes.length }) = rUsed l := by
  unfold rUsed modN
  rw [List.map_map]
  congr 1
  refine List.map_congr_left fun y hy => ?_
  simp only [Function.comp]
  split <;> rfl
theorem insP_len (x : PF) : ∀ l : List PF, (insP x l).length = l.length + 1
  | [] => rfl
  | p :: l => by
    unfold insP
    split
    · rw [List.length_cons, insP_len x l, List.length_cons]
    · simp
theorem crashR_len : ∀ (cs : List UInt8) (l : List PF), (crashR cs l).length = l.length
  | _, [] => rfl
  | cs, f :: l => by rw [crashR, List.length_cons, List.length_cons, crashR_len]
theorem dropN_len (l : List PF) (name : List UInt8) : (dropN' l name).length ≤ l.length := List.length_filter_le _ _
theorem dropN_lt {l : List PF} {name : List UInt8} (h : ∃ x ∈ l, x.name = name) : (dropN' l name).length + 1 ≤ l.length := by
  induction l with
  | nil => obtain ⟨x, hx, _⟩ := h; cases hx
  | cons p l ih =>
    rw [dropN_cons]
    by_cases e : p.name = name
    · rw [if_pos e]
      have := dropN_len l name
      simp; omega
    · rw [if_neg e]
      obtain ⟨x, hx, he⟩ := h
      rcases List.mem_cons.1 hx with rfl | hx
      · exact absurd he e
      · have := ih ⟨x, hx, he⟩
        simp; omega
/-- Both disks behind so many steps. -/
structure Pl (q : Int) (i : Nat) (m : Ds) (rr : Rf) : Prop where
  sim : SimD m rr
  uq : UQ m
  qq : m.quota = q
  q0 : -9223372036854775808 ≤ q
  q1 : q ≤ 9223372036854775807
  s0 : 0 ≤ m.steps
  s1 : m.steps ≤ i
  n : rr.files.length ≤ i
  u : rUsed rr.files ≤ 300 * i
  i1 : i ≤ 1000
theorem Pl.more {q : Int} {i : Nat} {m : Ds} {rr : Rf} (h : Pl q i m rr) (hi : i + 1 ≤ 1000) : Pl q (i + 1) m rr :=
  ⟨h.sim, h.uq, h.qq, h.q0, h.q1, h.s0, by have := h.s1; omega, by have := h.n; omega, by have := h.u; omega, hi⟩
theorem Pl.ds {q : Int} {i : Nat} {m : Ds} {rr : Rf} (h : Pl q i m rr) : DsOK m := by
  have h1 := h.s1; have h2 := h.u; have h3 := h.n; have h4 := h.i1
  have h5 := h.sim.used; have h6 := h.sim.len
  exact ⟨h.s0, by omega, by omega, by omega⟩
theorem Pl.rf {q : Int} {i : Nat} {m : Ds} {rr : Rf} (h : Pl q i m rr) : RfOK rr := by
  have h1 := h.s1; have h2 := h.u; have h3 := h.n; have h4 := h.i1
  have h5 := h.sim.s; have h6 := h.s0
  exact ⟨by omega, by omega, h.sim.p0, h.sim.p1, by omega, by omega, h.sim.sorted.nodup, h.sim.kept⟩
theorem Pl.stepUp {q : Int} {i : Nat} {m m' : Ds} {rr rr' : Rf} (h : Pl q i m rr) (hi : i + 1 ≤ 1000) (hs : SimD m' rr' ∧ UQ m') (hq : m'.quota = m.quota) (h0 : 0 ≤ m'.steps) (h1 : m'.steps ≤ m.steps + 1)
    (hn : rr'.files.length ≤ rr.files.length + 1) (hu : rUsed rr'.files ≤ rUsed rr.files + 300) : Pl q (i + 1) m' rr' := by
  have k1 := h.s1; have k2 := h.u; have k3 := h.n
  exact ⟨hs.1, hs.2, by rw [hq, h.qq], h.q0, h.q1, h0, by omega, by omega, by omega, hi⟩
theorem Pl.append {q : Int} {i : Nat} {m : Ds} {rr : Rf} (h : Pl q i m rr) (hi : i + 1 ≤ 1000) {name b : List UInt8} (hb : b.length ≤ 300) (hnd : ((appendM m name b).files.map (·.name)).Nodup) : Pl q (i + 1) (appendM m name b) (rAppendM rr name b) := by
  have hq : -9223372036854775808 ≤ m.quota ∧ m.quota ≤ 9223372036854775807 := by rw [h.qq]; exact ⟨h.q0, h.q1⟩
  have h1 := h.s1; have h4 := h.i1; have h0 := h.s0
  have hs := h.sim.append h.uq h.s0 (by omega) name b (by omega) hq (by rw [← h.sim.used]; have := h.u; omega) hnd
  have hst : (appendM m name b).steps = m.steps + 1 ∧ (appendM m name b).quota = m.quota := by
    unfold appendM
    cases appendR m name b == 0 <;> exact ⟨rfl, rfl⟩
  refine h.stepUp hi hs hst.2 (by omega) (by omega) ?_ ?_
  · unfold rAppendM
    cases rAppendE rr name b == 0 with
    | false => simp [rStep]
    | true =>
      simp only [cond_true, modN, List.length_map]
      cases hasN rr.files name with
      | true => simp
      | false => simp [insP_len]
  · have hk := hs.1.sorted.nodup
    unfold rAppendM at hk ⊢
    cases he : rAppendE rr name b == 0 with
    | false => simp [rStep]
    | true =>
      rw [he] at hk
      simp only [cond_true] at hk ⊢
      rw [modN_names (g := fun p => { p with bytes := p.bytes ++ b }) (fun _ => rfl)] at hk
      refine Nat.le_trans (rUsed_modN hk) ?_
      cases hasN rr.files name with
      | true => simp; omega
      | false => simp only [cond_false]; rw [rUsed_insP]; simp; omega
theorem Pl.sync {q : Int} {i : Nat} {m : Ds} {rr : Rf} (h : Pl q i m rr) (hi : i + 1 ≤ 1000) {name : List UInt8} (hnd : ((syncM m name).files.map (·.name)).Nodup) : Pl q (i + 1) (syncM m name) (rSyncM rr name) := by
  have h1 := h.s1; have h4 := h.i1; have h0 := h.s0
  have hs := h.sim.sync h.uq h.s0 (by omega) name hnd
  have hst : (syncM m name).steps = m.steps + 1 ∧ (syncM m name).quota = m.quota := by
    unfold syncM
    cases errM m name == 0 <;> exact ⟨rfl, rfl⟩
  refine h.stepUp hi hs hst.2 (by omega) (by omega) ?_ ?_
  · unfold rSyncM
    cases rErr rr name == 0 <;> simp [rStep, modN]
  · unfold rSyncM
    cases rErr rr name == 0 with
    | false => simp [rStep]
    | true => simp only [cond_true]; rw [rUsed_keep]; omega
theorem Pl.remove {q : Int} {i : Nat} {m : Ds} {rr : Rf} (h : Pl q i m rr) (hi : i + 1 ≤ 1000) {name : List UInt8} (hnd : ((removeM m name).files.map (·.name)).Nodup) : Pl q (i + 1) (removeM m name) (rRemoveM rr name) := by
  have h1 := h.s1; have h4 := h.i1; have h0 := h.s0
  have hs := h.sim.remove h.uq h.s0 (by omega) name hnd
  have hst : (removeM m name).steps = m.steps + 1 ∧ (removeM m name).quota = m.quota := by
    unfold removeM
    cases errM m name == 0 <;> exact ⟨rfl, rfl⟩
  refine h.stepUp hi hs hst.2 (by omega) (by omega) ?_ ?_
  · unfold rRemoveM
    cases rErr rr name == 0 with
    | false => simp [rStep]
    | true => have := dropN_len rr.files name; simp only [cond_true]; omega
  · unfold rRemoveM
    cases rErr rr name == 0 with
    | false => simp [rStep]
    | true => have := (rUsed_drop rr.files name).1; simp only [cond_true]; omega
theorem Pl.rename {q : Int} {i : Nat} {m : Ds} {rr : Rf} (h : Pl q i m rr) (hi : i + 1 ≤ 1000) {a b : List UInt8} (hnd : ((renameM m a b).files.map (·.name)).Nodup) : Pl q (i + 1) (renameM m a b) (rRenameM rr a b) := by
  have h1 := h.s1; have h4 := h.i1; have h0 := h.s0
  have hs := h.sim.rename h.uq h.s0 (by omega) a b hnd
  have hst : (renameM m a b).steps = m.steps + 1 ∧ (renameM m a b).quota = m.quota := by
    unfold renameM
    cases renameR m a b == 0 with
    | false => exact ⟨rfl, rfl⟩
    | true => simp only [cond_true]; cases findM m a <;> exact ⟨rfl, rfl⟩
  have hboth : (rRenameM rr a b).files.length ≤ rr.files.length + 1 ∧ rUsed (rRenameM rr a b).files ≤ rUsed rr.files + 300 := by
    unfold rRenameM
    cases rRenameE rr a b == 0 with
    | false => simp [rStep]
    | true =>
      simp only [cond_true]
      by_cases e : a = b
      · rw [if_pos e]; simp [rStep]
      · rw [if_neg e]
        cases hf : rr.files.find? fun p => decide (p.name = a) with
        | none => simp [rStep]
        | some x =>
          simp only []
          have hx := List.mem_of_find?_eq_some hf
          have hxn : x.name = a := by have := List.find?_some hf; simpa using this
          rw [insP_len, rUsed_insP]
          have k1 := dropN_len (dropN' rr.files a) b
          have k2 := dropN_lt (l := rr.files) (name := a) ⟨x, hx, hxn⟩
          have k3 := (rUsed_drop (dropN' rr.files a) b).1
          have k4 := (rUsed_drop rr.files a).2 x hx hxn
          simp only []
          omega
  exact h.stepUp hi hs hst.2 (by omega) (by omega) hboth.1 hboth.2
theorem Pl.power {q : Int} {i : Nat} {m : Ds} {rr : Rf} (h : Pl q i m rr) (hi : i + 1 ≤ 1000) (at0 : Int) (ha : at0 ≤ 9223372036854775807) : Pl q (i + 1) { m with off := powerAt m.steps m.off at0 } (rPowerM rr at0) := by
  have h1 := h.s1; have h4 := h.i1; have h0 := h.s0
  have hs := h.sim.power h.s0 at0 ha
  refine h.stepUp hi ⟨hs, h.uq⟩ rfl h0 (by simp only []; omega) ?_ ?_
  · unfold rPowerM; cases rr.off <;> simp
  · unfold rPowerM; cases rr.off <;> simp
theorem Pl.crash {q : Int} {i : Nat} {m : Ds} {rr : Rf} (h : Pl q i m rr) (hi : i + 1 ≤ 1000) (cs : List UInt8) (hnd : ((crashM m cs).files.map (·.name)).Nodup) : Pl q (i + 1) (crashM m cs) (rCrashM rr cs) := by
  have h1 := h.s1; have h4 := h.i1; have h0 := h.s0
  have hs := h.sim.crash h.uq cs hnd
  refine h.stepUp hi hs rfl h0 (by simp only [crashM]; omega) ?_ ?_
  · simp only [rCrashM]; rw [crashR_len]; omega
  · have := crashR_used cs rr.files; simp only [rCrashM]; omega
/-! ### To a heap that is known ahead -/
theorem pdet21 {H : Heap} {d : Nat} {m : Ds} {ids : List Nat} (h : DiskIs H d m ids) (ho : DsOK m) (name : List UInt8) :
    ∃ H', CallOK Try.prog 21 [.ptr d 0 0, .p (.str name)] H (fun r H'' => r = i64 (errM m name) ∧ H'' = H') ∧ ∃ ids', DiskIs H' d (removeM m name) ids' ∧ Goes H ids H' ids' := by
  obtain ⟨k, h, hk, rfl, rfl⟩ := h
  have hs1 : k.steps < 1000000000000 := ho.s1
  exact ⟨_, (CallOK.of_spec (s21 H d k name h ho.s0 (by omega))).mono (fun r H' hr => by obtain ⟨rfl, rfl⟩ := hr; exact ⟨by rw [errR_plain], rfl⟩), removeH_is h hk name⟩
theorem pdet16 {H : Heap} {d : Nat} {m : Ds} {ids : List Nat} (h : DiskIs H d m ids) (ho : DsOK m) (name b : List UInt8) (hn : name.length ≤ 1000) (hb : b.length ≤ 100000) :
    ∃ H', CallOK Try.prog 16 [.ptr d 0 0, .p (.str name), .p (.lst (b.map byteRow))] H (fun r H'' => r = i64 (appendR m name b) ∧ H'' = H') ∧ ∃ ids', DiskIs H' d (appendM m name b) ids' ∧ Goes H ids H' ids' := by
  obtain ⟨k, h, hk, rfl, rfl⟩ := h
  exact ⟨_, (c16k h ho name b hn hb).mono (fun r H' hr => ⟨by rw [hr.1, appendE_plain], hr.2⟩), appendHk_is h hk ho name b hb⟩
theorem pdet17 {H : Heap} {d : Nat} {m : Ds} {ids : List Nat} (h : DiskIs H d m ids) (ho : DsOK m) (name : List UInt8) :
    ∃ H', CallOK Try.prog 17 [.ptr d 0 0, .p (.str name)] H (fun r H'' => r = i64 (errM m name) ∧ H'' = H') ∧ ∃ ids', DiskIs H' d (syncM m name) ids' ∧ Goes H ids H' ids' := by
  obtain ⟨k, h, hk, rfl, rfl⟩ := h
  have hs1 : k.steps < 1000000000000 := ho.s1
  exact ⟨_, (CallOK.of_spec (s17 H d k name h ho.s0 (by omega))).mono (fun r H' hr => by obtain ⟨rfl, rfl⟩ := hr; exact ⟨by rw [errR_plain], rfl⟩), syncH_is h hk name⟩
theorem pdet25 {H : Heap} {d : Nat} {m : Ds} {ids : List Nat} (h : DiskIs H d m ids) (ho : DsOK m) (a b : List UInt8) (hb : b.length ≤ 1000) :
    ∃ H', CallOK Try.prog 25 [.ptr d 0 0, .p (.str a), .p (.str b)] H (fun r H'' => r = i64 (renameR m a b) ∧ H'' = H') ∧ ∃ ids', DiskIs H' d (renameM m a b) ids' ∧ Goes H ids H' ids' := by
  obtain ⟨k, h, hk, rfl, rfl⟩ := h
  have hs1 : k.steps < 1000000000000 := ho.s1
  exact ⟨_, (CallOK.of_spec (s25 H d k a b hb h ho.s0 (by omega))).mono (fun r H' hr => by obtain ⟨rfl, rfl⟩ := hr; exact ⟨by rw [renameE_plain], rfl⟩), renameH_is h hk a b hb⟩
end Go.Proofs.Ytanknokhbfijdaa
