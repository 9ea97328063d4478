/- What functions of the disk, and of the laws over it, do. Conditions: those that each theorem names. -/
import Derived.Test.YtanknokhbfijdaaD11
set_option linter.unusedVariables false
set_option linter.unusedSimpArgs false
namespace Go.Proofs.Ytanknokhbfijdaa
open Go.Ab
set_option maxRecDepth 100000
set_option maxHeartbeats 1000000

/-- A disk, without its places. -/
structure Ds where
  steps : Int
  off : Int
  quota : Int
  files : List PF
def plain (k : Dk) : Ds := ⟨k.steps, k.off, k.quota, k.files.map pf⟩
def findM (m : Ds) (name : List UInt8) : Option PF := m.files.find? fun p => decide (name = p.name)
def usedM (m : Ds) : Nat := (m.files.map (·.bytes.length)).sum
def stepM (m : Ds) : Ds := { m with steps := m.steps + 1 }
structure DsOK (m : Ds) : Prop where
  s0 : 0 ≤ m.steps
  s1 : m.steps < 1000000000000
  u : usedM m ≤ 10000000
  f : m.files.length ≤ 1000
def DiskIs (H : Heap) (d : Nat) (m : Ds) (ids : List Nat) : Prop := ∃ k, DiskAt H d k ∧ KeptOK k ∧ plain k = m ∧ ids = idsD d k

theorem findM_plain (k : Dk) (name : List UInt8) : findM (plain k) name = (lookF k name).map pf := by
  unfold findM lookF plain
  rw [List.find?_map]
  rfl
theorem usedM_plain (k : Dk) : usedM (plain k) = usedN k := by
  unfold usedM usedN plain
  rw [List.map_map]; rfl
theorem mem_sum_le {α : Type} {g : α → Nat} {x : α} : ∀ {l : List α}, x ∈ l → g x ≤ (l.map g).sum
  | [], h => by cases h
  | y :: l, h => by
    rw [List.map_cons, List.sum_cons]
    rcases List.mem_cons.1 h with rfl | h
    · omega
    · have := mem_sum_le (g := g) h; omega
theorem mem_used {k : Dk} {f : Fl} (hf : f ∈ k.files) : f.bytes.length ≤ usedN k := mem_sum_le (g := fun f : Fl => f.bytes.length) hf
theorem DiskIs.lt {H : Heap} {d : Nat} {m : Ds} {ids : List Nat} (h : DiskIs H d m ids) : ∀ j ∈ ids, j < H.length := by
  obtain ⟨k, h, _, _, rfl⟩ := h
  exact h.ids_lt
theorem DiskIs.move {H H' : Heap} {d : Nat} {m : Ds} {ids a b : List Nat} (h : DiskIs H d m ids) (g : Goes H a H' b) (hd : ∀ j ∈ ids, j ∉ a) : DiskIs H' d m ids := by
  obtain ⟨k, h, h2, h3, rfl⟩ := h
  exact ⟨k, h.move (fun j hj o ho => g.out j o (hd j hj) ho), h2, h3, rfl⟩

/-- New. -/
theorem a15 (H : Heap) (q : Int) : CallOK Try.prog 15 [i64 q] H (fun r H' => ∃ d ids, r = .ptr d 0 0 ∧ DiskIs H' d ⟨0, 0, q, []⟩ ids ∧ Goes H [] H' ids) := by
  refine (CallOK.of_spec (s15 H q)).mono (fun r H' hr => ?_)
  obtain ⟨rfl, rfl⟩ := hr
  refine ⟨H.length + 1, [H.length + 1, H.length], rfl, ⟨⟨H.length, [], 0, 0, 0, q, []⟩, ⟨?_, ?_, fun f hf => (by cases hf), List.nodup_nil, fun b hb => (by cases hb), rfl, List.nodup_nil, ?_⟩, fun f hf => (by cases hf), rfl, rfl⟩, ⟨fun j o _ ho => nth_app (nth_app ho), fun j hj => ?_, by simp⟩⟩
  · exact nth_new (by simp)
  · exact nth_app (nth_new rfl)
  · simp [idsF]
  · simp at hj; omega

def fullM (m : Ds) (n : Nat) (there : Bool) : Bool := decide (IntKind.i64.wrap (m.quota - usedM m) < n) || (!there && decide (50 ≤ m.files.length))
def appendR (m : Ds) (name b : List UInt8) : Int :=
  bif offB (m.steps + 1) m.off then 212 else bif okName name then (bif fullM m b.length (findM m name).isSome then 211 else 0) else 210
def addP (files : List PF) (name b : List UInt8) : List PF :=
  if (files.find? fun p => decide (name = p.name)).isSome then files.map fun p => if p.name = name then { p with bytes := p.bytes ++ b } else p else files ++ [⟨name, b, 0⟩]
def appendM (m : Ds) (name b : List UInt8) : Ds := bif appendR m name b == 0 then { stepM m with files := addP m.files name b } else stepM m
theorem appendE_plain (k : Dk) (name b : List UInt8) : appendE k name b = appendR (plain k) name b := by
  have e1 : (plain k).files.length = k.files.length := by simp [plain]
  unfold appendE appendR fullB fullM
  rw [findM_plain, usedM_plain, Option.isSome_map, e1]
  rfl

def appendHk (H : Heap) (d : Nat) (k : Dk) (name b : List UInt8) : Heap :=
  bif appendE k name b == 0 then (match lookF k name with
    | none => newH (stepH H d k) k name b
    | some f => moreH (stepH H d k) f b) else stepH H d k
theorem c16k {H : Heap} {d : Nat} {k : Dk} (h : DiskAt H d k) (ho : DsOK (plain k)) (name b : List UInt8) (hn : name.length ≤ 1000) (hb : b.length ≤ 100000) :
    CallOK Try.prog 16 [.ptr d 0 0, .p (.str name), .p (.lst (b.map byteRow))] H (fun r H' => r = i64 (appendE k name b) ∧ H' = appendHk H d k name b) := by
  have hu : usedN k ≤ 10000000 := by rw [← usedM_plain]; exact ho.u
  have hs0 : 0 ≤ k.steps := ho.s0
  have hs1 : k.steps < 1000000000000 := ho.s1
  unfold appendHk
  cases hl : lookF k name with
  | none => exact CallOK.of_spec (s16new H d k name b hn hb h hs0 (by omega) (by omega) hl)
  | some f =>
    have hfu := mem_used (lookF_mem hl)
    exact CallOK.of_spec (s16old H d k name b f hn hb h hs0 (by omega) (by omega) hl (by omega))
theorem appendHk_is {H : Heap} {d : Nat} {k : Dk} (h : DiskAt H d k) (hk : KeptOK k) (ho : DsOK (plain k)) (name b : List UInt8) (hb : b.length ≤ 100000) :
    ∃ ids', DiskIs (appendHk H d k name b) d (appendM (plain k) name b) ids' ∧ Goes H (idsD d k) (appendHk H d k name b) ids' := by
  have hu : usedN k ≤ 10000000 := by rw [← usedM_plain]; exact ho.u
  have hst := h.step
  have hgs := Goes.step H d k
  have hk1 : KeptOK { k with steps := k.steps + 1 } := hk
  have hl1 : ∀ n, lookF { k with steps := k.steps + 1 } n = lookF k n := fun _ => rfl
  unfold appendHk
  rw [appendE_plain]
  cases he : appendR (plain k) name b == 0 with
  | false =>
    refine ⟨_, ⟨_, hst, hk1, ?_, rfl⟩, hgs⟩
    simp only [appendM, he, cond_false]
    rfl
  | true =>
    simp only [cond_true]
    cases hl : lookF k name with
    | none =>
      obtain ⟨k', hk', hd', hg'⟩ := hst.new (b := b) (name := name) (by rw [hl1]; exact hl)
      have hnm : name.length ≤ 20 := by
        simp only [appendR] at he
        cases h1 : okName name with
        | false =>
          exfalso
          rw [h1] at he
          revert he
          cases offB ((plain k).steps + 1) (plain k).off <;> (simp only [cond_true, cond_false]; decide)
        | true => simp [okName] at h1; omega
      refine ⟨_, ⟨k', hd', ?_, ?_, rfl⟩, hgs.trans hg'⟩
      · subst hk'
        intro f hf
        rcases List.mem_append.1 hf with q | q
        · exact hk f q
        · simp at q; subst q; simp [newF]; omega
      · subst hk'
        have hfind : (plain k).files.find? (fun p => decide (name = p.name)) = none := by
          have := findM_plain k name
          rw [hl] at this; exact this
        simp only [appendM, he, cond_true, addP, hfind]
        simp [plain, stepM, pf, newF]
    | some f =>
      have hf := lookF_mem hl
      have hfu := mem_used hf
      have hm := hst.more (f := f) hf b
      refine ⟨_, ⟨_, hm.1, ?_, ?_, rfl⟩, hgs.trans hm.2⟩
      · intro g hg
        obtain ⟨g0, hg0, rfl⟩ := List.mem_map.1 hg
        have h1 := hk g0 hg0
        have h2 := hk f hf
        split
        · simp; omega
        · exact h1
      · have hfind : ((plain k).files.find? (fun p => decide (name = p.name))).isSome = true := by
          have := findM_plain k name
          rw [hl] at this; unfold findM at this; rw [this]; rfl
        have hnm : f.name = name := (lookF_split hl).1
        simp only [appendM, he, cond_true, addP, hfind, if_true]
        have := putF_pf hst (f := f) hf { f with bd := (moreHB (stepH H d k) f.bd f.bytes b).2, bytes := f.bytes ++ b } rfl (fun p => { p with bytes := p.bytes ++ b }) rfl
        simp only [plain, stepM, Ds.mk.injEq, true_and]
        rw [← hnm]
        exact this
/-- Append. -/
theorem a16 {H : Heap} {d : Nat} {m : Ds} {ids : List Nat} (h : DiskIs H d m ids) (ho : DsOK m) (name b : List UInt8) (hn : name.length ≤ 1000) (hb : b.length ≤ 100000) :
    CallOK Try.prog 16 [.ptr d 0 0, .p (.str name), .p (.lst (b.map byteRow))] H (fun r H' => r = i64 (appendR m name b) ∧ ∃ ids', DiskIs H' d (appendM m name b) ids' ∧ Goes H ids H' ids') := by
  obtain ⟨k, h, hk, rfl, rfl⟩ := h
  refine (c16k h ho name b hn hb).mono (fun r H' hr => ?_)
  obtain ⟨rfl, rfl⟩ := hr
  exact ⟨by rw [appendE_plain], appendHk_is h hk ho name b hb⟩
end Go.Proofs.Ytanknokhbfijdaa
