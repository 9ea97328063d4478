/- What functions of the disk, and of the laws over it, do. Conditions: those that each theorem names. -/
import Derived.Test.YtanknokhbfijdaaD0
set_option linter.unusedVariables false
set_option linter.unusedSimpArgs false
namespace Go.Proofs.Ytanknokhbfijdaa
open Go.Ab
set_option maxRecDepth 100000
set_option maxHeartbeats 1000000
attribute [local irreducible] Run CallOK DetCall Br PreP BothP AncOr Onw NeedRows NeedMap NeedRow NeedLen NilP NeedIter RoundP EntryP EqP OptP NewP NewSlice NewMade AppTo DrawG anc drawB

/-- Is the power off? -/
def offB (s o : Int) : Bool := decide (0 < o) && decide (o ≤ s)
theorem s50 (H : Heap) (id : Nat) (s o : Int) (rest : List D) (h : nth H id = some (.rows [i64 s :: i64 o :: rest])) : Ab.Spec Try.prog 50 [.ptr id 0 0] H (fun r H' => H' = H ∧ r = boolD (offB s o)) := by
  refine Ab.Spec.walk hm Try.func50 (by kernel_rfl) 60 ?_
  repeat' (first
    | ((with_reducible apply Onw.mk); conv => whnf)
    | (with_reducible first | apply Br.tt | apply Br.ff | apply Br.no)
    | ((with_reducible apply Br.t); · assumption)
    | ((with_reducible apply Br.f); · assumption)
    | ((with_reducible apply Br.dt); · exact ab_known)
    | ((with_reducible apply Br.df); · exact ab_known)
    | (with_reducible first | refine Br.dec (fun hc => ?_) (fun hc => ?_) | refine Br.mk (fun hc => ?_) (fun hc => ?_))
    | ((with_reducible first | apply NeedRows.mk | apply NeedMap.mk | apply NeedIter.mk); · exact ab_look)
    | ((with_reducible apply NeedLen.mk); · first | assumption | rfl)
    | ((with_reducible apply NeedRow.mk); · exact ab_lookR)
    | ((with_reducible apply DrawG.mk (List.replicate 60 false)); · decide +kernel)
    | (with_reducible first | refine NewP.mk (fun id hid => ?_) | refine NilP.mk (fun e he => ?_))
    | (with_reducible first | exact trivial | exact And.intro rfl rfl)
    | ((with_reducible apply PreP.mk); · exact ab_asked)
    | refine Exists.intro _ (PreP.mk (bytesOf_lst _) ?_)
    | refine PreP.mk (lenD_lst _) ?_
    | (with_reducible first | refine PreP.mk ?_ ?_ | refine BothP.mk ?_ ?_)
    | ((with_reducible apply AncOr.anc); · decide +kernel)
    | with_reducible refine AncOr.go ?_)
  · exact ⟨rfl, by simp [mkRes, offB, hc]⟩
  · exact ⟨rfl, by simp [mkRes, offB, hc]; rfl⟩

theorem s46 (H : Heap) (id : Nat) (s o : Int) (rest : List D) (h : nth H id = some (.rows [i64 s :: i64 o :: rest])) (hs : 0 ≤ s) (hs' : s < 4611686018427387904) :
    Ab.Spec Try.prog 46 [.ptr id 0 0] H (fun r H' => H' = setN H id (.rows [i64 (s + 1) :: i64 o :: rest]) ∧ r = boolD (!offB (s + 1) o)) := by
  refine Ab.Spec.walk hm Try.func46 (by kernel_rfl) 60 ?_
  repeat' (first
    | ((with_reducible apply Onw.mk); conv => whnf)
    | (with_reducible first | apply Br.tt | apply Br.ff | apply Br.no)
    | ((with_reducible apply Br.t); · assumption)
    | ((with_reducible apply Br.f); · assumption)
    | ((with_reducible apply Br.dt); · exact ab_known)
    | ((with_reducible apply Br.df); · exact ab_known)
    | (with_reducible first | refine Br.dec (fun hc => ?_) (fun hc => ?_) | refine Br.mk (fun hc => ?_) (fun hc => ?_))
    | ((with_reducible first | apply NeedRows.mk | apply NeedMap.mk | apply NeedIter.mk); · exact ab_look)
    | ((with_reducible apply NeedLen.mk); · first | assumption | rfl)
    | ((with_reducible apply NeedRow.mk); · exact ab_lookR)
    | ((with_reducible apply DrawG.mk (List.replicate 60 false)); · decide +kernel)
    | (with_reducible first | refine NewP.mk (fun id hid => ?_) | refine NilP.mk (fun e he => ?_))
    | (with_reducible first | exact trivial | exact And.intro rfl rfl)
    | ((with_reducible apply PreP.mk); · exact ab_asked)
    | refine Exists.intro _ (PreP.mk (bytesOf_lst _) ?_)
    | refine PreP.mk (lenD_lst _) ?_
    | (with_reducible first | refine PreP.mk ?_ ?_ | refine BothP.mk ?_ ?_)
    | ((with_reducible apply AncOr.anc); · decide +kernel)
    | with_reducible refine AncOr.go ?_)
  refine CallOK.go (CallOK.of_spec (s50 _ _ (IntKind.i64.wrap (s + 1)) o rest (nth_setN_same h))) (fun r H' hr => ?_)
  obtain ⟨rfl, rfl⟩ := hr
  repeat' (first
    | ((with_reducible apply Onw.mk); conv => whnf)
    | (with_reducible first | apply Br.tt | apply Br.ff | apply Br.no)
    | ((with_reducible apply Br.t); · assumption)
    | ((with_reducible apply Br.f); · assumption)
    | ((with_reducible apply Br.dt); · exact ab_known)
    | ((with_reducible apply Br.df); · exact ab_known)
    | (with_reducible first | refine Br.dec (fun hc => ?_) (fun hc => ?_) | refine Br.mk (fun hc => ?_) (fun hc => ?_))
    | ((with_reducible first | apply NeedRows.mk | apply NeedMap.mk | apply NeedIter.mk); · exact ab_look)
    | ((with_reducible apply NeedLen.mk); · first | assumption | rfl)
    | ((with_reducible apply NeedRow.mk); · exact ab_lookR)
    | ((with_reducible apply DrawG.mk (List.replicate 60 false)); · decide +kernel)
    | (with_reducible first | refine NewP.mk (fun id hid => ?_) | refine NilP.mk (fun e he => ?_))
    | (with_reducible first | exact trivial | exact And.intro rfl rfl)
    | ((with_reducible apply PreP.mk); · exact ab_asked)
    | refine Exists.intro _ (PreP.mk (bytesOf_lst _) ?_)
    | refine PreP.mk (lenD_lst _) ?_
    | (with_reducible first | refine PreP.mk ?_ ?_ | refine BothP.mk ?_ ?_)
    | ((with_reducible apply AncOr.anc); · decide +kernel)
    | with_reducible refine AncOr.go ?_)
  rw [wrap64 (n := s + 1) (by omega) (by omega)]
  exact ⟨rfl, rfl⟩
/-- A file on the disk. -/
structure Fl where
  name : List UInt8
  fid : Nat
  bd : D
  bytes : List UInt8
  kept : Int
/-- Bytes behind a slice. -/
def bytesAt (H : Heap) (d : D) (l : List UInt8) : Prop :=
  (d = .p .nil ∧ l = []) ∨ (∃ id, d = .own id 1 0 l.length none ∧ nth H id = some (.rows (l.map byteRowD))) ∨ (∃ id st rs, d = .own id 1 st 0 (some 0) ∧ l = [] ∧ nth H id = some (.rows rs) ∧ st ≤ rs.length)
structure Dk where
  mid : Nat
  bs : List Nat
  ck : Nat
  steps : Int
  off : Int
  quota : Int
  files : List Fl
def entF (f : Fl) : P × D := (.str f.name, .ptr f.fid 0 0)
def dRow (k : Dk) : Ab.Obj := .rows [[i64 k.steps, i64 k.off, i64 k.quota, .mp k.mid]]
def idsB (d : D) : List Nat :=
  match d with
  | .own id _ _ _ _ => [id]
  | _ => []
def idsF (k : Dk) : List Nat := k.files.flatMap fun f => f.fid :: idsB f.bd
structure DiskAt (H : Heap) (d : Nat) (k : Dk) : Prop where
  row : nth H d = some (dRow k)
  map : nth H k.mid = some (.map (k.files.map entF) k.bs k.ck)
  file : ∀ f ∈ k.files, nth H f.fid = some (.rows [[f.bd, i64 f.kept]]) ∧ bytesAt H f.bd f.bytes
  nodup : k.bs.Nodup
  lt : ∀ b ∈ k.bs, b < k.ck
  len : k.bs.length = k.files.length
  names : (k.files.map (·.name)).Nodup
  ids : (d :: k.mid :: idsF k).Nodup

def lookF (k : Dk) (name : List UInt8) : Option Fl := k.files.find? fun f => decide (name = f.name)
def nilPtr : D := .p (.v (.pointer none))
def foundR (f : Option Fl) : D :=
  match f with
  | some f => .tup [.ptr f.fid 0 0, i64 0]
  | none => .tup [nilPtr, i64 210]
def stepR (k : Dk) (name : List UInt8) : D := bif offB (k.steps + 1) k.off then .tup [nilPtr, i64 212] else foundR (lookF k name)

theorem lookE_files (k : Dk) (name : List UInt8) : lookE (k.files.map entF) (.str name) = (lookF k name).map fun f => .ptr f.fid 0 0 := lookE_str k.files (·.name) (fun f => .ptr f.fid 0 0) name

theorem s48 (H : Heap) (d : Nat) (k : Dk) (name : List UInt8) (h : DiskAt H d k) (hs : 0 ≤ k.steps) (hs' : k.steps < 4611686018427387904) :
    Ab.Spec Try.prog 48 [.ptr d 0 0, .p (.str name)] H (fun r H' => H' = setN H d (dRow { k with steps := k.steps + 1 }) ∧ r = stepR k name) := by
  have h1 := h.row
  unfold dRow at h1
  refine Ab.Spec.walk hm Try.func48 (by kernel_rfl) 100 ?_
  repeat' (first
    | ((with_reducible apply Onw.mk); conv => whnf)
    | (with_reducible first | apply Br.tt | apply Br.ff | apply Br.no)
    | ((with_reducible apply Br.t); · assumption)
    | ((with_reducible apply Br.f); · assumption)
    | ((with_reducible apply Br.dt); · exact ab_known)
    | ((with_reducible apply Br.df); · exact ab_known)
    | (with_reducible first | refine Br.dec (fun hc => ?_) (fun hc => ?_) | refine Br.mk (fun hc => ?_) (fun hc => ?_))
    | ((with_reducible first | apply NeedRows.mk | apply NeedMap.mk | apply NeedIter.mk); · exact ab_look)
    | ((with_reducible apply NeedLen.mk); · first | assumption | rfl)
    | ((with_reducible apply NeedRow.mk); · exact ab_lookR)
    | ((with_reducible apply DrawG.mk (List.replicate 60 false)); · decide +kernel)
    | (with_reducible first | refine NewP.mk (fun id hid => ?_) | refine NilP.mk (fun e he => ?_))
    | (with_reducible first | exact trivial | exact And.intro rfl rfl)
    | ((with_reducible apply PreP.mk); · exact ab_asked)
    | refine Exists.intro _ (PreP.mk (bytesOf_lst _) ?_)
    | refine PreP.mk (lenD_lst _) ?_
    | (with_reducible first | refine PreP.mk ?_ ?_ | refine BothP.mk ?_ ?_)
    | ((with_reducible apply AncOr.anc); · decide +kernel)
    | with_reducible refine AncOr.go ?_)
  refine CallOK.go (CallOK.of_spec (s46 _ _ _ _ _ h1 hs hs')) (fun r H' hr => ?_)
  obtain ⟨rfl, rfl⟩ := hr
  have h2 := h.map
  have hne : d ≠ k.mid := by have := h.ids; simp at this; exact this.1.1
  repeat' (first
    | ((with_reducible apply Onw.mk); conv => whnf)
    | (with_reducible first | apply Br.tt | apply Br.ff | apply Br.no)
    | ((with_reducible apply Br.t); · assumption)
    | ((with_reducible apply Br.f); · assumption)
    | ((with_reducible apply Br.dt); · exact ab_known)
    | ((with_reducible apply Br.df); · exact ab_known)
    | (with_reducible first | refine Br.dec (fun hc => ?_) (fun hc => ?_) | refine Br.mk (fun hc => ?_) (fun hc => ?_))
    | ((with_reducible first | apply NeedRows.mk | apply NeedMap.mk | apply NeedIter.mk); · exact ab_look)
    | ((with_reducible apply NeedLen.mk); · first | assumption | rfl)
    | ((with_reducible apply NeedRow.mk); · exact ab_lookR)
    | ((with_reducible apply DrawG.mk (List.replicate 60 false)); · decide +kernel)
    | (with_reducible first | refine NewP.mk (fun id hid => ?_) | refine NilP.mk (fun e he => ?_))
    | (with_reducible first | exact trivial | exact And.intro rfl rfl)
    | ((with_reducible apply PreP.mk); · exact ab_asked)
    | refine Exists.intro _ (PreP.mk (bytesOf_lst _) ?_)
    | refine PreP.mk (lenD_lst _) ?_
    | (with_reducible first | refine PreP.mk ?_ ?_ | refine BothP.mk ?_ ?_)
    | ((with_reducible apply AncOr.anc); · decide +kernel)
    | with_reducible refine AncOr.go ?_)
  · exact ⟨rfl, by simp only [stepR, hc]; rfl⟩
  · exact ⟨keysOk_str k.files (·.name) (fun f => .ptr f.fid 0 0), rfl⟩
  rw [lookE_files]
  cases hl : lookF k name with
  | none =>
    refine OptP.none rfl ?_
    repeat' (first
      | ((with_reducible apply Onw.mk); conv => whnf)
      | (with_reducible first | apply Br.tt | apply Br.ff | apply Br.no)
      | ((with_reducible apply Br.t); · assumption)
      | ((with_reducible apply Br.f); · assumption)
      | ((with_reducible apply Br.dt); · exact ab_known)
      | ((with_reducible apply Br.df); · exact ab_known)
      | (with_reducible first | refine Br.dec (fun hc => ?_) (fun hc => ?_) | refine Br.mk (fun hc => ?_) (fun hc => ?_))
      | ((with_reducible first | apply NeedRows.mk | apply NeedMap.mk | apply NeedIter.mk); · exact ab_look)
      | ((with_reducible apply NeedLen.mk); · first | assumption | rfl)
      | ((with_reducible apply NeedRow.mk); · exact ab_lookR)
      | ((with_reducible apply DrawG.mk (List.replicate 60 false)); · decide +kernel)
      | (with_reducible first | refine NewP.mk (fun id hid => ?_) | refine NilP.mk (fun e he => ?_))
      | (with_reducible first | exact trivial | exact And.intro rfl rfl)
      | ((with_reducible apply PreP.mk); · exact ab_asked)
      | refine Exists.intro _ (PreP.mk (bytesOf_lst _) ?_)
      | refine PreP.mk (lenD_lst _) ?_
      | (with_reducible first | refine PreP.mk ?_ ?_ | refine BothP.mk ?_ ?_)
      | ((with_reducible apply AncOr.anc); · decide +kernel)
      | with_reducible refine AncOr.go ?_)
    exact ⟨rfl, by simp only [stepR, hc, hl]; rfl⟩
  | some f =>
    refine OptP.some rfl ?_
    repeat' (first
      | ((with_reducible apply Onw.mk); conv => whnf)
      | (with_reducible first | apply Br.tt | apply Br.ff | apply Br.no)
      | ((with_reducible apply Br.t); · assumption)
      | ((with_reducible apply Br.f); · assumption)
      | ((with_reducible apply Br.dt); · exact ab_known)
      | ((with_reducible apply Br.df); · exact ab_known)
      | (with_reducible first | refine Br.dec (fun hc => ?_) (fun hc => ?_) | refine Br.mk (fun hc => ?_) (fun hc => ?_))
      | ((with_reducible first | apply NeedRows.mk | apply NeedMap.mk | apply NeedIter.mk); · exact ab_look)
      | ((with_reducible apply NeedLen.mk); · first | assumption | rfl)
      | ((with_reducible apply NeedRow.mk); · exact ab_lookR)
      | ((with_reducible apply DrawG.mk (List.replicate 60 false)); · decide +kernel)
      | (with_reducible first | refine NewP.mk (fun id hid => ?_) | refine NilP.mk (fun e he => ?_))
      | (with_reducible first | exact trivial | exact And.intro rfl rfl)
      | ((with_reducible apply PreP.mk); · exact ab_asked)
      | refine Exists.intro _ (PreP.mk (bytesOf_lst _) ?_)
      | refine PreP.mk (lenD_lst _) ?_
      | (with_reducible first | refine PreP.mk ?_ ?_ | refine BothP.mk ?_ ?_)
      | ((with_reducible apply AncOr.anc); · decide +kernel)
      | with_reducible refine AncOr.go ?_)
    exact ⟨rfl, by simp only [stepR, hc, hl]; rfl⟩

def usedN (k : Dk) : Nat := (k.files.map (·.bytes.length)).sum
theorem lenD_bytes {H : Heap} {d : D} {l : List UInt8} (h : bytesAt H d l) : lenD d = some l.length := by
  rcases h with ⟨rfl, rfl⟩ | ⟨id, rfl, _⟩ | ⟨id, st, rs, rfl, rfl, _⟩ <;> rfl

theorem s20 (H : Heap) (d : Nat) (k : Dk) (h : DiskAt H d k) (hu : usedN k ≤ 4611686018427387904) :
    Ab.Spec Try.prog 20 [.ptr d 0 0] H (fun r H' => (∃ l, H' = H ++ l) ∧ pureD r = true ∧ r = i64 (usedN k)) := by
  have h1 := h.row
  unfold dRow at h1
  have h2 := h.map
  refine Ab.Spec.walk hm Try.func20 (by kernel_rfl) 100 ?_
  repeat' (first
    | ((with_reducible apply Onw.mk); conv => whnf)
    | (with_reducible first | apply Br.tt | apply Br.ff | apply Br.no)
    | ((with_reducible apply Br.t); · assumption)
    | ((with_reducible apply Br.f); · assumption)
    | ((with_reducible apply Br.dt); · exact ab_known)
    | ((with_reducible apply Br.df); · exact ab_known)
    | (with_reducible first | refine Br.dec (fun hc => ?_) (fun hc => ?_) | refine Br.mk (fun hc => ?_) (fun hc => ?_))
    | ((with_reducible first | apply NeedRows.mk | apply NeedMap.mk | apply NeedIter.mk); · exact ab_look)
    | ((with_reducible apply NeedLen.mk); · first | assumption | rfl)
    | ((with_reducible apply NeedRow.mk); · exact ab_lookR)
    | ((with_reducible apply DrawG.mk (List.replicate 60 false)); · decide +kernel)
    | (with_reducible first | refine NewP.mk (fun id hid => ?_) | refine NilP.mk (fun e he => ?_))
    | (with_reducible first | exact trivial | exact And.intro rfl rfl)
    | ((with_reducible apply PreP.mk); · exact ab_asked)
    | refine Exists.intro _ (PreP.mk (bytesOf_lst _) ?_)
    | refine PreP.mk (lenD_lst _) ?_
    | (with_reducible first | refine PreP.mk ?_ ?_ | refine BothP.mk ?_ ?_)
    | ((with_reducible apply AncOr.anc); · decide +kernel)
    | with_reducible refine AncOr.go ?_)
  refine Run.keep [(3, i64 (0 : Nat)), (10, .ptr id 0 0)] ⟨rfl, rfl, trivial⟩ ?_
  refine Run.rounds (fun seen T H' => T = [(3, i64 (sumSeen (fun f : Fl => f.bytes.length) seen k.bs k.files)), (10, .ptr id 0 0)] ∧ H' = H ++ [.iter k.mid k.ck seen k.ck]) (leftN k.bs) ?_ (x := []) ⟨by rw [sumSeen_nil], rfl⟩
  rintro seen T H' ⟨rfl, rfl⟩ ih
  have hit : nth (H ++ [Ab.Obj.iter k.mid k.ck seen k.ck]) id = some (.iter k.mid k.ck seen k.ck) := nth_new hid
  refine Run.walk hm Try.func20 100 ?_
  repeat' (first
    | ((with_reducible apply Onw.mk); conv => whnf)
    | (with_reducible first | apply Br.tt | apply Br.ff | apply Br.no)
    | ((with_reducible apply Br.t); · assumption)
    | ((with_reducible apply Br.f); · assumption)
    | ((with_reducible apply Br.dt); · exact ab_known)
    | ((with_reducible apply Br.df); · exact ab_known)
    | (with_reducible first | refine Br.dec (fun hc => ?_) (fun hc => ?_) | refine Br.mk (fun hc => ?_) (fun hc => ?_))
    | ((with_reducible first | apply NeedRows.mk | apply NeedMap.mk | apply NeedIter.mk); · exact ab_look)
    | ((with_reducible apply NeedLen.mk); · first | assumption | rfl)
    | ((with_reducible apply NeedRow.mk); · exact ab_lookR)
    | ((with_reducible apply DrawG.mk (List.replicate 60 false)); · decide +kernel)
    | (with_reducible first | refine NewP.mk (fun id hid => ?_) | refine NilP.mk (fun e he => ?_))
    | (with_reducible first | exact trivial | exact And.intro rfl rfl)
    | ((with_reducible apply PreP.mk); · exact ab_asked)
    | refine Exists.intro _ (PreP.mk (bytesOf_lst _) ?_)
    | refine PreP.mk (lenD_lst _) ?_
    | (with_reducible first | refine PreP.mk ?_ ?_ | refine BothP.mk ?_ ?_)
    | ((with_reducible apply AncOr.anc); · decide +kernel)
    | with_reducible refine AncOr.go ?_)
  · exact ⟨h.lt, Nat.le_refl _⟩
  refine RoundP.mk (fun hall => ?_) (fun i ky dd b hi hb hs => ?_)
  ·
    repeat' (first
      | ((with_reducible apply Onw.mk); conv => whnf)
      | (with_reducible first | apply Br.tt | apply Br.ff | apply Br.no)
      | ((with_reducible apply Br.t); · assumption)
      | ((with_reducible apply Br.f); · assumption)
      | ((with_reducible apply Br.dt); · exact ab_known)
      | ((with_reducible apply Br.df); · exact ab_known)
      | (with_reducible first | refine Br.dec (fun hc => ?_) (fun hc => ?_) | refine Br.mk (fun hc => ?_) (fun hc => ?_))
      | ((with_reducible first | apply NeedRows.mk | apply NeedMap.mk | apply NeedIter.mk); · exact ab_look)
      | ((with_reducible apply NeedLen.mk); · first | assumption | rfl)
      | ((with_reducible apply NeedRow.mk); · exact ab_lookR)
      | ((with_reducible apply DrawG.mk (List.replicate 60 false)); · decide +kernel)
      | (with_reducible first | refine NewP.mk (fun id hid => ?_) | refine NilP.mk (fun e he => ?_))
      | (with_reducible first | exact trivial | exact And.intro rfl rfl)
      | ((with_reducible apply PreP.mk); · exact ab_asked)
      | refine Exists.intro _ (PreP.mk (bytesOf_lst _) ?_)
      | refine PreP.mk (lenD_lst _) ?_
      | (with_reducible first | refine PreP.mk ?_ ?_ | refine BothP.mk ?_ ?_)
      | ((with_reducible apply AncOr.anc); · decide +kernel)
      | with_reducible refine AncOr.go ?_)
    refine ⟨⟨_, rfl⟩, rfl, ?_⟩
    rw [sumSeen_all _ h.len hall]; rfl
  · obtain ⟨f, hf, rfl, rfl⟩ : ∃ f, k.files[i]? = some f ∧ ky = .str f.name ∧ dd = .ptr f.fid 0 0 := by
      rw [List.getElem?_map] at hi
      cases hf : k.files[i]? with
      | none => rw [hf] at hi; cases hi
      | some f => rw [hf] at hi; simp [entF] at hi; exact ⟨f, rfl, hi.1.symm, hi.2.symm⟩
    have hfile := h.file f (List.mem_of_getElem? hf)
    have hfr := hfile.1
    have hlt := nth_lt hfr
    have hne : id ≠ f.fid := by omega
    have hne2 : id ≠ k.mid := by have := nth_lt h2; omega
    repeat' (first
      | ((with_reducible apply Onw.mk); conv => whnf)
      | (with_reducible first | apply Br.tt | apply Br.ff | apply Br.no)
      | ((with_reducible apply Br.t); · assumption)
      | ((with_reducible apply Br.f); · assumption)
      | ((with_reducible apply Br.dt); · exact ab_known)
      | ((with_reducible apply Br.df); · exact ab_known)
      | (with_reducible first | refine Br.dec (fun hc => ?_) (fun hc => ?_) | refine Br.mk (fun hc => ?_) (fun hc => ?_))
      | ((with_reducible first | apply NeedRows.mk | apply NeedMap.mk | apply NeedIter.mk); · exact ab_look)
      | ((with_reducible apply NeedLen.mk); · first | assumption | rfl)
      | ((with_reducible apply NeedRow.mk); · exact ab_lookR)
      | ((with_reducible apply DrawG.mk (List.replicate 60 false)); · decide +kernel)
      | (with_reducible first | refine NewP.mk (fun id hid => ?_) | refine NilP.mk (fun e he => ?_))
      | (with_reducible first | exact trivial | exact And.intro rfl rfl)
      | ((with_reducible apply PreP.mk); · exact ab_asked)
      | refine Exists.intro _ (PreP.mk (bytesOf_lst _) ?_)
      | refine PreP.mk (lenD_lst _) ?_
      | (with_reducible first | refine PreP.mk ?_ ?_ | refine BothP.mk ?_ ?_)
      | ((with_reducible apply AncOr.anc); · decide +kernel)
      | with_reducible refine AncOr.go ?_)
    refine EntryP.mk (by simp) hb hi h.nodup ?_
    have hl := lenD_bytes hfile.2
    repeat' (first
      | ((with_reducible apply Onw.mk); conv => whnf)
      | (with_reducible first | apply Br.tt | apply Br.ff | apply Br.no)
      | ((with_reducible apply Br.t); · assumption)
      | ((with_reducible apply Br.f); · assumption)
      | ((with_reducible apply Br.dt); · exact ab_known)
      | ((with_reducible apply Br.df); · exact ab_known)
      | (with_reducible first | refine Br.dec (fun hc => ?_) (fun hc => ?_) | refine Br.mk (fun hc => ?_) (fun hc => ?_))
      | ((with_reducible first | apply NeedRows.mk | apply NeedMap.mk | apply NeedIter.mk); · exact ab_look)
      | ((with_reducible apply NeedLen.mk); · first | assumption | rfl)
      | ((with_reducible apply NeedRow.mk); · exact ab_lookR)
      | ((with_reducible apply DrawG.mk (List.replicate 60 false)); · decide +kernel)
      | (with_reducible first | refine NewP.mk (fun id hid => ?_) | refine NilP.mk (fun e he => ?_))
      | (with_reducible first | exact trivial | exact And.intro rfl rfl)
      | ((with_reducible apply PreP.mk); · exact ab_asked)
      | refine Exists.intro _ (PreP.mk (bytesOf_lst _) ?_)
      | refine PreP.mk (lenD_lst _) ?_
      | (with_reducible first | refine PreP.mk ?_ ?_ | refine BothP.mk ?_ ?_)
      | ((with_reducible apply AncOr.anc); · decide +kernel)
      | with_reducible refine AncOr.go ?_)
    have hadd := sumSeen_add (fun f : Fl => f.bytes.length) h.nodup hb hf hs
    have hle := sumSeen_le (fun f : Fl => f.bytes.length) (seen ++ [b]) k.bs k.files
    have hus : usedN k = (k.files.map fun f : Fl => f.bytes.length).sum := rfl
    refine Run.keep [(3, i64 (sumSeen (fun f : Fl => f.bytes.length) (seen ++ [b]) k.bs k.files)), (10, .ptr id 0 0)] ⟨slot64 (by omega) (by omega) (by omega), rfl, trivial⟩ ?_
    exact ih (seen ++ [b]) _ _ (leftN_less (List.mem_of_getElem? hb) hs) ⟨rfl, setN_last hid⟩
end Go.Proofs.Ytanknokhbfijdaa
