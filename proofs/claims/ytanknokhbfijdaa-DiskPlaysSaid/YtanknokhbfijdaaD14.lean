/- What functions of the disk, and of the laws over it, do. Conditions: those that each theorem names. -/
import Derived.Test.YtanknokhbfijdaaD13
set_option linter.unusedVariables false
set_option linter.unusedSimpArgs false
namespace Go.Proofs.Ytanknokhbfijdaa
open Go.Ab
set_option maxRecDepth 100000
set_option maxHeartbeats 1000000

/-- Power. -/
theorem a22 {H : Heap} {d : Nat} {m : Ds} {ids : List Nat} (h : DiskIs H d m ids) (ho : DsOK m) (at0 : Int) :
    CallOK Try.prog 22 [.ptr d 0 0, i64 at0] H (fun r H' => r = .tup [] ∧ DiskIs H' d { m with off := powerAt m.steps m.off at0 } ids ∧ Goes H ids H' ids) := by
  obtain ⟨k, h, hk, rfl, rfl⟩ := h
  have hs1 : k.steps < 1000000000000 := ho.s1
  refine (CallOK.of_spec (s22 H d k.steps k.off at0 (i64 k.quota) (.mp k.mid) h.row ho.s0 (by omega))).mono (fun r H' hr => ?_)
  obtain ⟨rfl, rfl⟩ := hr
  exact ⟨rfl, ⟨_, h.setRow k.steps (powerAt k.steps k.off at0), hk, rfl, rfl⟩, Goes.set (by simp [idsD])⟩
/-- Steps. -/
theorem a24 {H : Heap} {d : Nat} {m : Ds} {ids : List Nat} (h : DiskIs H d m ids) : CallOK Try.prog 24 [.ptr d 0 0] H (fun r H' => r = i64 m.steps ∧ H' = H) := by
  obtain ⟨k, h, hk, rfl, rfl⟩ := h
  exact (CallOK.of_spec (s24 H d k.steps k.off [i64 k.quota, .mp k.mid] h.row)).mono (fun r H' hr => ⟨hr.2, hr.1⟩)
/-- Used. -/
theorem a20 {H : Heap} {d : Nat} {m : Ds} {ids : List Nat} (h : DiskIs H d m ids) (ho : DsOK m) : CallOK Try.prog 20 [.ptr d 0 0] H (fun r H' => r = i64 (usedM m) ∧ H' = H) := by
  obtain ⟨k, h, hk, rfl, rfl⟩ := h
  rw [usedM_plain]
  exact c20 H d k h (by have := ho.u; rw [usedM_plain] at this; omega)
/-- What Read tells. -/
def readM (m : Ds) (name : List UInt8) : D :=
  bif offB m.steps m.off then .tup [.p .nil, i64 212] else match findM m name with
    | some p => .tup [.p (.lst (p.bytes.map byteRow)), i64 0]
    | none => .tup [.p .nil, i64 210]
theorem a19 {H : Heap} {d : Nat} {m : Ds} {ids : List Nat} (h : DiskIs H d m ids) (name : List UInt8) : CallOK Try.prog 19 [.ptr d 0 0, .p (.str name)] H (fun r H' => r = readM m name ∧ H' = H) := by
  obtain ⟨k, h, hk, rfl, rfl⟩ := h
  refine (CallOK.of_spec (s19 H d k name h (fun f hf => (hk f hf).2.2.1))).mono (fun r H' hr => ⟨?_, hr.1⟩)
  rw [hr.2]
  unfold readR readM
  rw [findM_plain]
  cases lookF k name <;> rfl
def namesM (m : Ds) : List (List UInt8) := (m.files.map (·.name)).mergeSort leB
theorem namesM_plain (k : Dk) : namesM (plain k) = namesS k := by
  unfold namesM namesS plain
  rw [List.map_map]; rfl
/-- What List tells. -/
def listM (m : Ds) : D := bif offB m.steps m.off then .p .nil else .p (.lst ((namesM m).map strRow))
theorem a23 {H : Heap} {d : Nat} {m : Ds} {ids : List Nat} (h : DiskIs H d m ids) (ho : DsOK m) : CallOK Try.prog 23 [.ptr d 0 0] H (fun r H' => r = listM m ∧ H' = H) := by
  obtain ⟨k, h, hk, rfl, rfl⟩ := h
  have hf : k.files.length ≤ 1000 := by have := ho.f; simpa [plain] using this
  refine (CallOK.of_spec (s23 H d k h (fun f hf => (hk f hf).2.2.2) (by omega))).mono (fun r H' hr => ⟨?_, hr.1⟩)
  rw [hr.2]
  unfold listR listM
  rw [namesM_plain]; rfl
def crashM (m : Ds) (cs : List UInt8) : Ds := { m with off := 0, files := crashL (namesM m) cs m.files }
/-- Crash. -/
theorem a18 {H : Heap} {d : Nat} {m : Ds} {ids : List Nat} (h : DiskIs H d m ids) (ho : DsOK m) (cs : List UInt8) (hcs : cs.length ≤ 100000) :
    CallOK Try.prog 18 [.ptr d 0 0, .p (.lst (cs.map byteRow))] H (fun r H' => r = .tup [] ∧ ∃ ids', DiskIs H' d (crashM m cs) ids' ∧ Goes H ids H' ids') := by
  obtain ⟨k, h, hk, rfl, rfl⟩ := h
  have hf : k.files.length ≤ 1000 := by have := ho.f; simpa [plain] using this
  refine (CallOK.of_spec (s18 H d k cs h hk (by omega) hcs)).mono (fun r H' hr => ?_)
  obtain ⟨rfl, k', h1, h2, h3, h4, h5, h6, h7⟩ := hr
  refine ⟨rfl, _, ⟨k', h1, h7, ?_, rfl⟩, h2⟩
  unfold crashM
  rw [namesM_plain]
  simp only [plain, h3, h4, h5, h6]

/-! ### What stays small -/
theorem stepM_ok {m : Ds} (h : DsOK m) (hs : m.steps < 999999999999) : DsOK (stepM m) := ⟨by have := h.s0; simp [stepM]; omega, by simp [stepM]; omega, h.u, h.f⟩
theorem errM_steps (m : Ds) (n : List UInt8) : (syncM m n).steps = m.steps + 1 ∧ (removeM m n).steps = m.steps + 1 := by
  unfold syncM removeM
  cases errM m n == 0 <;> exact ⟨rfl, rfl⟩
end Go.Proofs.Ytanknokhbfijdaa
