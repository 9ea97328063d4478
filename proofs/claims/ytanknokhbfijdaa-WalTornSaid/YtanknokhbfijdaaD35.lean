/- What functions of the disk, and of the laws over it, do. Conditions: those that each theorem names. -/
import Derived.Test.YtanknokhbfijdaaD34
import Derived.Test.YtanknokhbfijdaaKc
set_option linter.unusedVariables false
set_option linter.unusedSimpArgs false
namespace Go.Proofs.Ytanknokhbfijdaa
open Go.Ab
set_option maxRecDepth 100000
set_option maxHeartbeats 1000000
attribute [local irreducible] Run CallOK DetCall Br PreP BothP AncOr Onw NeedRows NeedMap NeedRow NeedLen NilP NeedIter RoundP EntryP EqP OptP NewP NewSlice NewMade AppTo DrawG anc drawB
theorem nextL_len {b r rest : List UInt8} (h : nextL b = some (r, rest)) : r.length + rest.length + 8 = b.length ∧ r.length ≤ 4000 := by
  unfold nextL at h
  split at h
  · cases h
  · split at h
    · cases h
    · rename_i h1 h2
      simp only [Option.some.injEq, Prod.mk.injEq] at h
      obtain ⟨rfl, rfl⟩ := h
      simp only [not_or, Nat.not_lt] at h2
      simp only [List.length_take, List.length_drop] at h2 ⊢
      omega
/-- The records at the beginning of bytes, and what is behind them. -/
def scanF : Nat → List UInt8 → List (List UInt8) × List UInt8
  | 0, b => ([], b)
  | k + 1, b => match nextL b with
    | none => ([], b)
    | some x => (x.1 :: (scanF k x.2).1, (scanF k x.2).2)
def scanL (b : List UInt8) : List (List UInt8) × List UInt8 := scanF b.length b
theorem scanF_eq : ∀ (k j : Nat) (b : List UInt8), b.length ≤ k → b.length ≤ j → scanF k b = scanF j b
  | 0, 0, _, _, _ => rfl
  | 0, j + 1, b, h, _ => by
    obtain rfl : b = [] := List.length_eq_zero_iff.1 (by omega)
    rfl
  | k + 1, 0, b, _, h => by
    obtain rfl : b = [] := List.length_eq_zero_iff.1 (by omega)
    rfl
  | k + 1, j + 1, b, h, h' => by
    simp only [scanF]
    cases hn : nextL b with
    | none => rfl
    | some x =>
      obtain ⟨r, rest⟩ := x
      have := nextL_len hn
      simp only []
      rw [scanF_eq k j rest (by omega) (by omega)]
theorem scanL_none {b : List UInt8} (h : nextL b = none) : scanL b = ([], b) := by
  unfold scanL
  cases hb : b.length with
  | zero => rfl
  | succ k => simp only [scanF, h]
theorem scanL_some {b r rest : List UInt8} (h : nextL b = some (r, rest)) : scanL b = (r :: (scanL rest).1, (scanL rest).2) := by
  have hl := nextL_len h
  unfold scanL
  obtain ⟨k, hk⟩ : ∃ k, b.length = k + 1 := ⟨b.length - 1, by omega⟩
  rw [hk]
  simp only [scanF, h]
  rw [scanF_eq k rest.length rest (by omega) (Nat.le_refl _)]
theorem scanF_len : ∀ (k : Nat) (b : List UInt8), (scanF k b).2.length ≤ b.length ∧ (scanF k b).1.length * 8 + (scanF k b).2.length ≤ b.length
  | 0, b => by simp [scanF]
  | k + 1, b => by
    simp only [scanF]
    cases hn : nextL b with
    | none => simp
    | some x =>
      obtain ⟨r, rest⟩ := x
      have h1 := nextL_len hn
      have h2 := scanF_len k rest
      simp only [List.length_cons]
      omega
theorem scanL_len (b : List UInt8) : (scanL b).2.length ≤ b.length ∧ (scanL b).1.length * 8 + (scanL b).2.length ≤ b.length := scanF_len _ _
theorem s36 (H : Heap) (b : List UInt8) (hb : b.length ≤ 1000000) : Ab.Spec Try.prog 36 [.p (.lst (b.map byteRow))] H (fun r H' => ∃ id, OwnL H H' id ((scanL b).1.map strRow) ∧ r = .tup (.own id 1 0 ((scanL b).1.map strRow).length none :: [i64 (b.length - (scanL b).2.length : Nat)])) := by
  have hlb : ((b.map byteRow).length : Int) = b.length := by simp
  refine Ab.Spec.walk hm Try.func36 (by kernel_rfl) 100 ?_
  repeat' (first
    | ((with_reducible apply Onw.mk); conv => whnf)
    | (with_reducible first | apply Br.tt | apply Br.ff | apply Br.no)
    | ((with_reducible apply Br.t); · assumption)
    | ((with_reducible apply Br.f); · assumption)
    | ((with_reducible apply Br.dt); · exact ab_known)
    | ((with_reducible apply Br.df); · exact ab_known)
    | (with_reducible first | refine Br.dec (fun hc => ?_) (fun hc => ?_) | refine Br.mk (fun hc => ?_) (fun hc => ?_))
    | ((with_reducible first | apply NeedRows.mk | apply NeedMap.mk | apply NeedIter.mk); · exact ab_look)
    | ((with_reducible apply NeedLen.mk); · first | assumption | rfl)
    | ((with_reducible apply NeedRow.mk); · exact ab_lookR)
    | ((with_reducible apply DrawG.mk (List.replicate 60 false)); · decide +kernel)
    | (with_reducible first | refine NewP.mk (fun id hid => ?_) | refine NilP.mk (fun e he => ?_))
    | (with_reducible first | exact trivial | exact And.intro rfl rfl)
    | ((with_reducible apply PreP.mk); · exact ab_asked)
    | refine Exists.intro _ (PreP.mk (bytesOf_lst _) ?_)
    | refine PreP.mk (lenD_lst _) ?_
    | (with_reducible first | refine PreP.mk ?_ ?_ | refine BothP.mk ?_ ?_)
    | ((with_reducible apply AncOr.anc); · decide +kernel)
    | with_reducible refine AncOr.go ?_)
  refine Run.virt 4 1 rfl ?_
  refine Run.keep [(0, .p (.lst (b.map byteRow))), (4, .own H.length 1 0 (0 : Nat) none), (5, .p (.lst (b.map byteRow)))] ⟨rfl, rfl, rfl, trivial⟩ ?_
  refine Run.rounds (fun (rest : List UInt8) T H2 => ∃ (out : List (List UInt8)) (id : Nat), T = [(0, .p (.lst (b.map byteRow))), (4, .own id 1 0 out.length none), (5, .p (.lst (rest.map byteRow)))] ∧ OwnL H H2 id (out.map strRow) ∧
    scanL b = (out ++ (scanL rest).1, (scanL rest).2) ∧ rest.length ≤ b.length ∧ out.length * 8 + rest.length ≤ b.length) (fun rest => rest.length) ?_ (x := b) ⟨[], _, rfl, OwnL.start H, by simp, Nat.le_refl _, by simp⟩
  rintro rest T H2 ⟨out, id, rfl, hO, hsc, hle, hle2⟩ ih
  have hrow := hO.2.2
  have hlr : ((rest.map byteRow).length : Int) = rest.length := by simp
  refine Run.walk hm Try.func36 100 ?_
  repeat' (first
    | ((with_reducible apply Onw.mk); conv => whnf)
    | (with_reducible first | apply Br.tt | apply Br.ff | apply Br.no)
    | ((with_reducible apply Br.t); · assumption)
    | ((with_reducible apply Br.f); · assumption)
    | ((with_reducible apply Br.dt); · exact ab_known)
    | ((with_reducible apply Br.df); · exact ab_known)
    | (with_reducible first | refine Br.dec (fun hc => ?_) (fun hc => ?_) | refine Br.mk (fun hc => ?_) (fun hc => ?_))
    | ((with_reducible first | apply NeedRows.mk | apply NeedMap.mk | apply NeedIter.mk); · exact ab_look)
    | ((with_reducible apply NeedLen.mk); · first | assumption | rfl)
    | ((with_reducible apply NeedRow.mk); · exact ab_lookR)
    | ((with_reducible apply DrawG.mk (List.replicate 60 false)); · decide +kernel)
    | (with_reducible first | refine NewP.mk (fun id hid => ?_) | refine NilP.mk (fun e he => ?_))
    | (with_reducible first | exact trivial | exact And.intro rfl rfl)
    | ((with_reducible apply PreP.mk); · exact ab_asked)
    | refine Exists.intro _ (PreP.mk (bytesOf_lst _) ?_)
    | refine PreP.mk (lenD_lst _) ?_
    | (with_reducible first | refine PreP.mk ?_ ?_ | refine BothP.mk ?_ ?_)
    | ((with_reducible apply AncOr.anc); · decide +kernel)
    | with_reducible refine AncOr.go ?_)
  refine CallOK.go (CallOK.of_spec (s61 _ rest (by omega))) (fun r H3 hr => ?_)
  obtain ⟨rfl, rfl⟩ := hr
  unfold nextR
  cases hn : nextL rest with
  | none =>
    rw [scanL_none hn] at hsc
    repeat' (first
      | ((with_reducible apply Onw.mk); conv => whnf)
      | (with_reducible first | apply Br.tt | apply Br.ff | apply Br.no)
      | ((with_reducible apply Br.t); · assumption)
      | ((with_reducible apply Br.f); · assumption)
      | ((with_reducible apply Br.dt); · exact ab_known)
      | ((with_reducible apply Br.df); · exact ab_known)
      | (with_reducible first | refine Br.dec (fun hc => ?_) (fun hc => ?_) | refine Br.mk (fun hc => ?_) (fun hc => ?_))
      | ((with_reducible first | apply NeedRows.mk | apply NeedMap.mk | apply NeedIter.mk); · exact ab_look)
      | ((with_reducible apply NeedLen.mk); · first | assumption | rfl)
      | ((with_reducible apply NeedRow.mk); · exact ab_lookR)
      | ((with_reducible apply DrawG.mk (List.replicate 60 false)); · decide +kernel)
      | (with_reducible first | refine NewP.mk (fun id hid => ?_) | refine NilP.mk (fun e he => ?_))
      | (with_reducible first | exact trivial | exact And.intro rfl rfl)
      | ((with_reducible apply PreP.mk); · exact ab_asked)
      | refine Exists.intro _ (PreP.mk (bytesOf_lst _) ?_)
      | refine PreP.mk (lenD_lst _) ?_
      | (with_reducible first | refine PreP.mk ?_ ?_ | refine BothP.mk ?_ ?_)
      | ((with_reducible apply AncOr.anc); · decide +kernel)
      | with_reducible refine AncOr.go ?_)
    refine ⟨id, ?_, ?_⟩
    · rw [hsc]; simpa using hO
    · rw [hsc]
      simp only [mkRes, List.append_nil, List.length_map]
      have e : IntKind.i64.wrap (((b.map byteRow).length : Int) - ((rest.map byteRow).length : Int)) = ((b.length - rest.length : Nat) : Int) := by
        rw [hlb, hlr, wrap64 (by omega) (by omega)]; omega
      rw [List.length_map, List.length_map] at e
      exact congrArg (fun x => D.tup [.own id 1 0 out.length none, i64 x]) e
  | some x =>
    obtain ⟨r, rest2⟩ := x
    have hl := nextL_len hn
    rw [scanL_some hn] at hsc
    repeat' (first
      | ((with_reducible apply Onw.mk); conv => whnf)
      | (with_reducible first | apply Br.tt | apply Br.ff | apply Br.no)
      | ((with_reducible apply Br.t); · assumption)
      | ((with_reducible apply Br.f); · assumption)
      | ((with_reducible apply Br.dt); · exact ab_known)
      | ((with_reducible apply Br.df); · exact ab_known)
      | (with_reducible first | refine Br.dec (fun hc => ?_) (fun hc => ?_) | refine Br.mk (fun hc => ?_) (fun hc => ?_))
      | ((with_reducible first | apply NeedRows.mk | apply NeedMap.mk | apply NeedIter.mk); · exact ab_look)
      | ((with_reducible apply NeedLen.mk); · first | assumption | rfl)
      | ((with_reducible apply NeedRow.mk); · exact ab_lookR)
      | ((with_reducible apply DrawG.mk (List.replicate 60 false)); · decide +kernel)
      | (with_reducible first | refine NewP.mk (fun id hid => ?_) | refine NilP.mk (fun e he => ?_))
      | (with_reducible first | exact trivial | exact And.intro rfl rfl)
      | ((with_reducible apply PreP.mk); · exact ab_asked)
      | refine Exists.intro _ (PreP.mk (bytesOf_lst _) ?_)
      | refine PreP.mk (lenD_lst _) ?_
      | (with_reducible first | refine PreP.mk ?_ ?_ | refine BothP.mk ?_ ?_)
      | ((with_reducible apply AncOr.anc); · decide +kernel)
      | with_reducible refine AncOr.go ?_)
    refine NewSlice.lst [strRow r] rfl rfl (fun q hq => by simp at hq; subst hq; rfl) ?_
    repeat' (first
      | ((with_reducible apply Onw.mk); conv => whnf)
      | (with_reducible first | apply Br.tt | apply Br.ff | apply Br.no)
      | ((with_reducible apply Br.t); · assumption)
      | ((with_reducible apply Br.f); · assumption)
      | ((with_reducible apply Br.dt); · exact ab_known)
      | ((with_reducible apply Br.df); · exact ab_known)
      | (with_reducible first | refine Br.dec (fun hc => ?_) (fun hc => ?_) | refine Br.mk (fun hc => ?_) (fun hc => ?_))
      | ((with_reducible first | apply NeedRows.mk | apply NeedMap.mk | apply NeedIter.mk); · exact ab_look)
      | ((with_reducible apply NeedLen.mk); · first | assumption | rfl)
      | ((with_reducible apply NeedRow.mk); · exact ab_lookR)
      | ((with_reducible apply DrawG.mk (List.replicate 60 false)); · decide +kernel)
      | (with_reducible first | refine NewP.mk (fun id hid => ?_) | refine NilP.mk (fun e he => ?_))
      | (with_reducible first | exact trivial | exact And.intro rfl rfl)
      | ((with_reducible apply PreP.mk); · exact ab_asked)
      | refine Exists.intro _ (PreP.mk (bytesOf_lst _) ?_)
      | refine PreP.mk (lenD_lst _) ?_
      | (with_reducible first | refine PreP.mk ?_ ?_ | refine BothP.mk ?_ ?_)
      | ((with_reducible apply AncOr.anc); · decide +kernel)
      | with_reducible refine AncOr.go ?_)
    · exact rows_pre out.length (out.map strRow) [strRow r] (fun q hq => by simp at hq; subst hq; exact ⟨rfl, fun p hp => by simp [strRow] at hp; subst hp; rfl⟩) 16 (by unfold maxRoom; simp; omega) (by unfold maxS; simp; omega) (by simp)
    refine AppTo.new (fun id2 hid2 => ?_)
    repeat' (first
      | ((with_reducible apply Onw.mk); conv => whnf)
      | (with_reducible first | apply Br.tt | apply Br.ff | apply Br.no)
      | ((with_reducible apply Br.t); · assumption)
      | ((with_reducible apply Br.f); · assumption)
      | ((with_reducible apply Br.dt); · exact ab_known)
      | ((with_reducible apply Br.df); · exact ab_known)
      | (with_reducible first | refine Br.dec (fun hc => ?_) (fun hc => ?_) | refine Br.mk (fun hc => ?_) (fun hc => ?_))
      | ((with_reducible first | apply NeedRows.mk | apply NeedMap.mk | apply NeedIter.mk); · exact ab_look)
      | ((with_reducible apply NeedLen.mk); · first | assumption | rfl)
      | ((with_reducible apply NeedRow.mk); · exact ab_lookR)
      | ((with_reducible apply DrawG.mk (List.replicate 60 false)); · decide +kernel)
      | (with_reducible first | refine NewP.mk (fun id hid => ?_) | refine NilP.mk (fun e he => ?_))
      | (with_reducible first | exact trivial | exact And.intro rfl rfl)
      | ((with_reducible apply PreP.mk); · exact ab_asked)
      | refine Exists.intro _ (PreP.mk (bytesOf_lst _) ?_)
      | refine PreP.mk (lenD_lst _) ?_
      | (with_reducible first | refine PreP.mk ?_ ?_ | refine BothP.mk ?_ ?_)
      | ((with_reducible apply AncOr.anc); · decide +kernel)
      | with_reducible refine AncOr.go ?_)
    refine Run.keep _ ?_ (ih rest2 _ _ (by omega) ⟨out ++ [r], id2, rfl, ?_, ?_, by omega, by simp; omega⟩)
    · exact ⟨rfl, congrArg (fun n => some (D.own id2 1 0 n none)) (by simp), rfl, trivial⟩
    · rw [List.map_append]
      refine hO.rows hid2 ?_
      rw [List.drop_zero, List.take_of_length_le (by rw [List.length_map, List.length_map]; exact Nat.le_refl _), List.map_append]
      rfl
    · rw [hsc]; simp
theorem c36 (H : Heap) (b : List UInt8) (hb : b.length ≤ 1000000) : CallOK Try.prog 36 [.p (.lst (b.map byteRow))] H (fun r H' => r = .tup [.p (.lst ((scanL b).1.map strRow)), i64 (b.length - (scanL b).2.length : Nat)] ∧ H' = H) :=
  CallOK.ownLT rfl (fun r hr => by obtain ⟨x, _, rfl⟩ := List.mem_map.1 hr; rfl) (CallOK.of_spec (s36 H b hb))
theorem c38 (H : Heap) (s : List UInt8) (hs : s.length ≤ 1000000) : CallOK Try.prog 38 [.p (.str s)] H (fun r H' => r = (if 4000 < s.length then .p .nil else .p (.lst ((frameL s).map byteRow))) ∧ H' = H) :=
  (CallOK.of_spec (s38 H s hs)).mono fun r H' hr => ⟨hr.2, hr.1⟩
end Go.Proofs.Ytanknokhbfijdaa
