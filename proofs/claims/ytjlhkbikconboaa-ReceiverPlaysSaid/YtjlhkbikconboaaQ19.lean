/- What functions of the receiver, of labels, rows, batches, and of the laws over them, do. Conditions: those that each theorem names. -/
import Derived.Test.YtjlhkbikconboaaQ18
import Derived.Test.YtjlhkbikconboaaKc
set_option linter.unusedVariables false
set_option linter.unusedSimpArgs false
namespace Go.Proofs.Ytjlhkbikconboaa
open Go.Ab
set_option maxRecDepth 100000
set_option maxHeartbeats 1000000
variable {H : Type} {enc : TypeId × Value → H} {W : World}
theorem cells64 : Try.prog.cellsOf 64 = 1 := by kernel_rfl
theorem cells66 : Try.prog.cellsOf 66 = 2 := by kernel_rfl
theorem cells68 : Try.prog.cellsOf 68 = 3 := by kernel_rfl
theorem cells78 : Try.prog.cellsOf 78 = 2 := by kernel_rfl
theorem cells30 : Try.prog.cellsOf 30 = 1 := by kernel_rfl
theorem cells32 : Try.prog.cellsOf 32 = 4 := by kernel_rfl
theorem cells34 : Try.prog.cellsOf 34 = 5 := by kernel_rfl
theorem cells9 : Try.prog.cellsOf 9 = 1 := by kernel_rfl
theorem cells3 : Try.prog.cellsOf 3 = 1 := by kernel_rfl
theorem cells4 : Try.prog.cellsOf 4 = 1 := by kernel_rfl
theorem cells2 : Try.prog.cellsOf 2 = 1 := by kernel_rfl
abbrev Opens (fuel : Nat) (t : TypeId) (cs : List Value) (x : DataW H × List MemPlace) (enc : TypeId × Value → H) (W : World) : Prop := DataW.trod enc Try.prog W 0 (fun _ => true) true fuel t cs = some x
theorem o_str {fuel : Nat} {cs : List Value} {x : DataW H × List MemPlace} (h : Opens fuel 9 cs x enc W) : ∃ s : List UInt8, s.length ≤ 9223372036854775807 ∧ RdPs (memOf W) [.str s] cs := by
  obtain ⟨s, rfl, _, hs⟩ := DataW.trod_string Try.underlying9 h
  exact ⟨s.data.toList, by unfold maxLen at hs; have : s.data.toList.length = s.size := Array.length_toList; omega, .one (.str rfl)⟩
theorem o_int {fuel : Nat} {cs : List Value} {x : DataW H × List MemPlace} (h : Opens fuel 3 cs x enc W) : ∃ n : Int, (-9223372036854775808 ≤ n ∧ n ≤ 9223372036854775807) ∧ RdPs (memOf W) [.int .i64 n] cs := by
  obtain ⟨n, rfl, _, hn⟩ := DataW.trod_int Try.underlying3 h
  exact ⟨n, Go.Ab.wf_i64 hn, .one .int⟩
theorem o_int2 {fuel : Nat} {cs : List Value} {x : DataW H × List MemPlace} (h : Opens fuel 2 cs x enc W) : ∃ n : Int, RdPs (memOf W) [.int .i64 n] cs := by
  obtain ⟨n, rfl, _, hn⟩ := DataW.trod_int Try.underlying2 h
  exact ⟨n, .one .int⟩
theorem o_bool {fuel : Nat} {cs : List Value} {x : DataW H × List MemPlace} (h : Opens fuel 4 cs x enc W) : ∃ b : Bool, RdPs (memOf W) [.bool b] cs := by
  obtain ⟨b, rfl, _⟩ := DataW.trod_bool Try.underlying4 h
  exact ⟨b, .one .bool⟩
theorem o_pair {fuel : Nat} {cs : List Value} {x : DataW H × List MemPlace} (h : Opens fuel 78 cs x enc W) : ∃ p : Pair, (p.1.length ≤ 9223372036854775807 ∧ p.2.length ≤ 9223372036854775807) ∧ RdPs (memOf W) (pairRow p) cs := by
  obtain ⟨hl, hf⟩ := open_structL Try.underlying78 h
  rw [cells78] at hl
  match cs, hl with
  | [a, b], _ =>
    obtain ⟨_, _, h0⟩ := hf 0 _ rfl
    obtain ⟨_, _, h1⟩ := hf 1 _ rfl
    obtain ⟨s, hs, r0⟩ := o_str (cs := [a]) h0
    obtain ⟨t, htl, r1⟩ := o_str (cs := [b]) h1
    exact ⟨(s, t), ⟨hs, htl⟩, r0.app r1⟩
instance : Inhabited Rw := ⟨rw0⟩
theorem o_pairs {fuel : Nat} {cs : List Value} {x : DataW H × List MemPlace} (h : Opens fuel 64 cs x enc W) : ∃ l : List Pair, Fits l ∧ RdPs (memOf W) [.lst (l.map pairRow)] cs := by
  obtain ⟨l, v, rfl, h1, h2, h3⟩ := open_sliceL (row := pairRow) Try.underlying64 cells78 (by decide) (fun _ => rfl) (fun fuel cs x h => o_pair h) h
  exact ⟨l, ⟨h1, h2⟩, .one h3⟩
theorem o_num {fuel : Nat} {cs : List Value} {x : DataW H × List MemPlace} (h : Opens fuel 66 cs x enc W) : ∃ (o : Bool) (n : Int), RdPs (memOf W) [.bool o, .int .i64 n] cs := by
  obtain ⟨hl, hf⟩ := open_structL Try.underlying66 h
  rw [cells66] at hl
  match cs, hl with
  | [a, b], _ =>
    obtain ⟨_, _, h0⟩ := hf 0 _ rfl
    obtain ⟨_, _, h1⟩ := hf 1 _ rfl
    obtain ⟨o, r0⟩ := o_bool (cs := [a]) h0
    obtain ⟨n, r1⟩ := o_int2 (cs := [b]) h1
    exact ⟨o, n, r0.app r1⟩
theorem o_row {fuel : Nat} {cs : List Value} {x : DataW H × List MemPlace} (h : Opens fuel 68 cs x enc W) : ∃ r : Rw, Fits r.ls ∧ RdPs (memOf W) (rowRow r) cs := by
  obtain ⟨hl, hf⟩ := open_structL Try.underlying68 h
  rw [cells68] at hl
  match cs, hl with
  | [a, b, c], _ =>
    obtain ⟨_, _, h0⟩ := hf 0 _ rfl
    obtain ⟨_, _, h1⟩ := hf 1 _ rfl
    obtain ⟨l, hfl, r0⟩ := o_pairs (cs := [a]) h0
    obtain ⟨o, n, r1⟩ := o_num (cs := [b, c]) h1
    exact ⟨⟨l, o, n⟩, hfl, r0.app r1⟩
theorem o_rows {fuel : Nat} {cs : List Value} {x : DataW H × List MemPlace} (h : Opens fuel 30 cs x enc W) : ∃ l : List Rw, FitsR l ∧ RdPs (memOf W) [.lst (l.map rowRow)] cs := by
  obtain ⟨l, v, rfl, h1, h2, h3⟩ := open_sliceL (row := rowRow) Try.underlying30 cells68 (by decide) (fun _ => rfl) (fun fuel cs x h => o_row h) h
  exact ⟨l, ⟨h1, h2⟩, .one h3⟩
/-- A batch that a machine can bear, of whatever rows. -/
structure WideB (b : Bt) : Prop where
  seq : b.seq ≤ 9223372036854775807
  g : b.g.length ≤ 9223372036854775807
  rows : FitsR b.rows
theorem o_batch {fuel : Nat} {cs : List Value} {x : DataW H × List MemPlace} (h : Opens fuel 32 cs x enc W) : ∃ b : Bt, WideB b ∧ RdPs (memOf W) (batRow b) cs := by
  obtain ⟨hl, hf⟩ := open_structL Try.underlying32 h
  rw [cells32] at hl
  match cs, hl with
  | [a, b, c, d], _ =>
    obtain ⟨_, _, h0⟩ := hf 0 _ rfl
    obtain ⟨_, _, h1⟩ := hf 1 _ rfl
    obtain ⟨_, _, h2⟩ := hf 2 _ rfl
    obtain ⟨_, _, h3⟩ := hf 3 _ rfl
    obtain ⟨s, hs, r0⟩ := o_int (cs := [a]) h0
    obtain ⟨t, _, r1⟩ := o_int (cs := [b]) h1
    obtain ⟨g, hg, r2⟩ := o_str (cs := [c]) h2
    obtain ⟨l, hfl, r3⟩ := o_rows (cs := [d]) h3
    exact ⟨⟨s, t, g, l⟩, ⟨hs.2, hg, hfl⟩, r0.app (r1.app (r2.app r3))⟩
def letRow (b : Bt) (lo : Int) : List P := [.int .i64 b.seq, .int .i64 b.t, .str b.g, .lst (b.rows.map rowRow), .int .i64 lo]
theorem o_letter {fuel : Nat} {cs : List Value} {x : DataW H × List MemPlace} (h : Opens fuel 34 cs x enc W) : ∃ (b : Bt) (lo : Int), WideB b ∧ RdPs (memOf W) (letRow b lo) cs := by
  obtain ⟨hl, hf⟩ := open_structL Try.underlying34 h
  rw [cells34] at hl
  match cs, hl with
  | [a, b, c, d, e], _ =>
    obtain ⟨_, _, h0⟩ := hf 0 _ rfl
    obtain ⟨_, _, h1⟩ := hf 1 _ rfl
    obtain ⟨b, hb, r0⟩ := o_batch (cs := [a, b, c, d]) h0
    obtain ⟨lo, _, r1⟩ := o_int (cs := [e]) h1
    exact ⟨b, lo, hb, r0.app r1⟩
theorem open_letter {base : Nat} {v : Value} {d : DataW H} {p : List MemPlace} (hok : Value.okWide Try.prog W .any base 34 v) (h : DataW.Trod enc Try.prog W 0 (fun _ => true) true 34 v d p) :
    ∃ (b : Bt) (lo : Int), WideB b ∧ RdD (memOf W) [] (.p (letterP b lo)) v := by
  obtain ⟨fuel, hf⟩ := h
  obtain ⟨b, lo, hb, hr⟩ := o_letter hf
  simp only [Value.okWide, Try.underlying34] at hok
  obtain ⟨cs, rfl, _, _⟩ := hok
  exact ⟨b, lo, hb, .p (RdPs.agg hr)⟩
end Go.Proofs.Ytjlhkbikconboaa
