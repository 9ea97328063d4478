/- What functions of the disk, and of the laws over it, do. Conditions: those that each theorem names. -/
import Derived.Test.YtanknokhbfijdaaD84
import Derived.Test.YtanknokhbfijdaaKc
set_option linter.unusedVariables false
set_option linter.unusedSimpArgs false
namespace Go.Proofs.Ytanknokhbfijdaa
open Go.Ab
set_option maxRecDepth 100000
set_option maxHeartbeats 1000000
/-- A step as the statement gives it. -/
structure Stp where
  what : Int
  a : List UInt8
  b : List UInt8
  bytes : List UInt8
  pat : Int
  ch : List UInt8
instance : Inhabited Stp := ⟨⟨0, [], [], [], 0, []⟩⟩
def stpRow (s : Stp) : List P := [.int .i64 s.what, .str s.a, .str s.b, .lst (s.bytes.map byteRow), .int .i64 s.pat, .lst (s.ch.map byteRow)]
structure StpOK (s : Stp) : Prop where
  w0 : -9223372036854775808 ≤ s.what
  w1 : s.what ≤ 9223372036854775807
  p1 : s.pat ≤ 9223372036854775807
section
variable {H : Type} {enc : TypeId × Value → H} {W : World}
abbrev Opens (fuel : Nat) (t : TypeId) (cs : List Value) (x : DataW H × List MemPlace) (enc : TypeId × Value → H) (W : World) : Prop := DataW.trod enc Try.prog W 0 (fun _ => true) true fuel t cs = some x
theorem cells51 : Try.prog.cellsOf 51 = 6 := by kernel_rfl
theorem cells5' : Try.prog.cellsOf 5 = 1 := by kernel_rfl
theorem o_str {fuel : Nat} {cs : List Value} {x : DataW H × List MemPlace} (h : Opens fuel 9 cs x enc W) : ∃ s : List UInt8, RdPs (memOf W) [.str s] cs := by
  obtain ⟨s, rfl, _, hs⟩ := DataW.trod_string Try.underlying9 h
  exact ⟨s.data.toList, .one (.str rfl)⟩
theorem o_int {fuel : Nat} {cs : List Value} {x : DataW H × List MemPlace} (h : Opens fuel 3 cs x enc W) : ∃ n : Int, (-9223372036854775808 ≤ n ∧ n ≤ 9223372036854775807) ∧ RdPs (memOf W) [.int .i64 n] cs := by
  obtain ⟨n, rfl, _, hn⟩ := DataW.trod_int Try.underlying3 h
  exact ⟨n, Go.Ab.wf_i64 hn, .one .int⟩
theorem o_u8 {fuel : Nat} {cs : List Value} {x : DataW H × List MemPlace} (h : Opens fuel 5 cs x enc W) : ∃ c : UInt8, True ∧ RdPs (memOf W) (byteRow c) cs := by
  obtain ⟨n, rfl, _, hn⟩ := DataW.trod_int Try.underlying5 h
  obtain ⟨c, rfl⟩ := Go.Ab.wf_U8 hn
  exact ⟨c, trivial, .one .int⟩
theorem o_bytes {fuel : Nat} {cs : List Value} {x : DataW H × List MemPlace} (h : Opens fuel 22 cs x enc W) : ∃ l : List UInt8, RdPs (memOf W) [.lst (l.map byteRow)] cs := by
  obtain ⟨l, v, rfl, h1, h2, h3⟩ := open_sliceL (row := byteRow) Try.underlying22 cells5' (by decide) (fun _ => rfl) (fun fuel cs x h => o_u8 h) h
  exact ⟨l, .one h3⟩
theorem o_stp {fuel : Nat} {cs : List Value} {x : DataW H × List MemPlace} (h : Opens fuel 51 cs x enc W) : ∃ s : Stp, StpOK s ∧ RdPs (memOf W) (stpRow s) cs := by
  obtain ⟨hl, hf⟩ := open_structL Try.underlying51 h
  rw [cells51] at hl
  match cs, hl with
  | [a, b, c, d, e, f], _ =>
    obtain ⟨_, _, h0⟩ := hf 0 _ rfl
    obtain ⟨_, _, h1⟩ := hf 1 _ rfl
    obtain ⟨_, _, h2⟩ := hf 2 _ rfl
    obtain ⟨_, _, h3⟩ := hf 3 _ rfl
    obtain ⟨_, _, h4⟩ := hf 4 _ rfl
    obtain ⟨_, _, h5⟩ := hf 5 _ rfl
    obtain ⟨w, hw, r0⟩ := o_int (cs := [a]) h0
    obtain ⟨s, r1⟩ := o_str (cs := [b]) h1
    obtain ⟨t, r2⟩ := o_str (cs := [c]) h2
    obtain ⟨l, r3⟩ := o_bytes (cs := [d]) h3
    obtain ⟨n, hn, r4⟩ := o_int (cs := [e]) h4
    obtain ⟨k, r5⟩ := o_bytes (cs := [f]) h5
    exact ⟨⟨w, s, t, l, n, k⟩, ⟨hw.1, hw.2, hn.2⟩, r0.app (r1.app (r2.app (r3.app (r4.app r5))))⟩
theorem open_steps {base : Nat} {v : Value} {d : DataW H} {p : List MemPlace} (hok : Value.okWide Try.prog W .any base 47 v) (h : DataW.Trod enc Try.prog W 0 (fun _ => true) true 47 v d p) :
    ∃ l : List Stp, (l.length ≤ 9223372036854775807 ∧ ∀ x ∈ l, StpOK x) ∧ RdD (memOf W) [] (.p (.lst (l.map stpRow))) v := by
  obtain ⟨fuel, hf⟩ := h
  obtain ⟨l, v', hv, h1, h2, h3⟩ := open_sliceL (row := stpRow) (Good := StpOK) Try.underlying47 cells51 (by decide) (fun _ => rfl) (fun fuel cs x h => o_stp h) hf
  obtain ⟨ao, len, cap, rfl⟩ := Go.WideShapes.okWide_slice Try.underlying47 hok
  simp [Value.cells] at hv
  subst hv
  exact ⟨l, ⟨h1, h2⟩, .p h3⟩
end
end Go.Proofs.Ytanknokhbfijdaa
