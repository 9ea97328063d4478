/- What functions of the disk, and of the laws over it, do. Conditions: those that each theorem names. -/
import Derived.Test.YtanknokhbfijdaaD39
import Derived.Test.YtanknokhbfijdaaD21
set_option linter.unusedVariables false
set_option linter.unusedSimpArgs false
namespace Go.Proofs.Ytanknokhbfijdaa
open Go.Ab
set_option maxRecDepth 100000
set_option maxHeartbeats 1000000
attribute [local irreducible] Run CallOK DetCall Br PreP BothP AncOr Onw NeedRows NeedMap NeedRow NeedLen NilP NeedIter RoundP EntryP EqP OptP NewP NewSlice NewMade AppTo DrawG anc drawB
theorem valN_put (n : Nat) (h : n < 4294967296) : valN (putL n 4) = n := by
  simp [putL, List.range_succ, valN]
  omega
theorem take_pre {α : Type} {a b : List α} {n : Nat} (h : a.length = n) : (a ++ b).take n = a := by
  subst h; simp
theorem drop_pre {α : Type} {a b : List α} {n : Nat} (h : a.length = n) : (a ++ b).drop n = b := by
  subst h; simp
theorem nextL_frame (s rest : List UInt8) (hs : s.length ≤ 4000) : nextL (frameL s ++ rest) = some (s, rest) := by
  have hl := frameL_len s
  have hsum := sumS_lt s
  have e1 : (frameL s ++ rest).take 4 = putL s.length 4 := by
    unfold frameL
    rw [List.append_assoc, List.append_assoc, take_pre (putL_len _ _)]
  have e2 : ((frameL s ++ rest).drop 4).take 4 = putL (sumS s) 4 := by
    unfold frameL
    rw [List.append_assoc, List.append_assoc, drop_pre (putL_len _ _), take_pre (putL_len _ _)]
  have e3 : (frameL s ++ rest).drop 8 = s ++ rest := by
    have : (frameL s ++ rest).drop 8 = ((frameL s ++ rest).drop 4).drop 4 := by rw [List.drop_drop]
    rw [this]
    unfold frameL
    rw [List.append_assoc, List.append_assoc, drop_pre (putL_len _ _), drop_pre (putL_len _ _)]
  unfold nextL
  rw [if_neg (by rw [List.length_append]; omega), e1, e2, e3, valN_put _ (by omega), valN_put _ hsum, take_pre rfl, drop_pre rfl, if_neg]
  rintro (h | h | h)
  · omega
  · rw [List.length_append] at h; omega
  · exact h rfl
theorem scanL_frame (s rest : List UInt8) (hs : s.length ≤ 4000) : scanL (frameL s ++ rest) = (s :: (scanL rest).1, (scanL rest).2) := scanL_some (nextL_frame s rest hs)
theorem scanL_short (b : List UInt8) (h : b.length < 8) : scanL b = ([], b) := scanL_none (by unfold nextL; rw [if_pos h])
/-- Frames, one behind the other. -/
def framesL (l : List (List UInt8)) : List UInt8 := (l.map frameL).flatten
theorem scanL_frames : ∀ (l : List (List UInt8)) (rest : List UInt8), (∀ s ∈ l, s.length ≤ 4000) → scanL (framesL l ++ rest) = (l ++ (scanL rest).1, (scanL rest).2)
  | [], rest, _ => by simp [framesL]
  | s :: l, rest, h => by
    have ih := scanL_frames l rest (fun x hx => h x (List.mem_cons_of_mem _ hx))
    have e : framesL (s :: l) ++ rest = frameL s ++ (framesL l ++ rest) := by simp [framesL]
    rw [e, scanL_frame s _ (h s List.mem_cons_self), ih]
    simp
theorem find_one (name : List UInt8) (b : List UInt8) (kp : Nat) (st q : Int) : findM ⟨st, 0, q, [⟨name, b, kp⟩]⟩ name = some ⟨name, b, kp⟩ := by simp [findM]
theorem logApp_one {st q n : Int} {name b rec : List UInt8} {kp : Nat} (hname : okName name = true) (hr : rec.length ≤ 4000) (hq : (b.length : Int) + rec.length + 8 ≤ q) (hq2 : q ≤ 1000000) :
    logApp ⟨st, 0, q, [⟨name, b, kp⟩]⟩ name n false rec = ⟨0, ⟨st + 1 + 1, 0, q, [⟨name, b ++ frameL rec, (b ++ frameL rec).length⟩]⟩, n + 1, false⟩ := by
  have hfl := frameL_len rec
  have hR : appendR ⟨st, 0, q, [⟨name, b, kp⟩]⟩ name (frameL rec) = 0 := by
    rw [appR_val (by simp [offB]) hname hq2 (by simp only []; omega) (by simp [usedM]; omega) (by simp), if_neg]
    simp [usedM]; omega
  have hA : appendM ⟨st, 0, q, [⟨name, b, kp⟩]⟩ name (frameL rec) = ⟨st + 1, 0, q, [⟨name, b ++ frameL rec, kp⟩]⟩ := by
    unfold appendM; rw [hR]
    simp [addP, stepM]
  have hE : errM ⟨st + 1, 0, q, [⟨name, b ++ frameL rec, kp⟩]⟩ name = 0 := by
    unfold errM; rw [find_one]; simp [offB]
  have hS : syncM ⟨st + 1, 0, q, [⟨name, b ++ frameL rec, kp⟩]⟩ name = ⟨st + 1 + 1, 0, q, [⟨name, b ++ frameL rec, (b ++ frameL rec).length⟩]⟩ := by
    unfold syncM; rw [hE]; simp [stepM]
  have hc : (false || decide (4000 < rec.length)) = false := by simp; omega
  unfold logApp
  rw [hc, hR, hA, hE, hS]
  rfl
theorem logApp_full {st q n : Int} {name b rec : List UInt8} {kp : Nat} (hname : okName name = true) (hr : rec.length ≤ 4000) (hq0 : (b.length : Int) ≤ q) (hq : q < (b.length : Int) + rec.length + 8) (hq2 : q ≤ 1000000) :
    logApp ⟨st, 0, q, [⟨name, b, kp⟩]⟩ name n false rec = ⟨211, ⟨st + 1, 0, q, [⟨name, b, kp⟩]⟩, n, false⟩ := by
  have hfl := frameL_len rec
  have hR : appendR ⟨st, 0, q, [⟨name, b, kp⟩]⟩ name (frameL rec) = 211 := by
    rw [appR_val (by simp [offB]) hname hq2 (by simp only []; omega) (by simp [usedM]; omega) (by simp), if_pos]
    simp [usedM]; omega
  have hA : appendM ⟨st, 0, q, [⟨name, b, kp⟩]⟩ name (frameL rec) = ⟨st + 1, 0, q, [⟨name, b, kp⟩]⟩ := by
    unfold appendM; rw [hR]; rfl
  have hc : (false || decide (4000 < rec.length)) = false := by simp; omega
  unfold logApp
  rw [hc, hR, hA]
  rfl
/-- A crash of what is all kept. -/
theorem crash_kept (st q : Int) (name b : List UInt8) (cs : List UInt8) : crashM ⟨st, 0, q, [⟨name, b, b.length⟩]⟩ cs = ⟨st, 0, q, [⟨name, b, b.length⟩]⟩ := by
  have e : ∀ c' : UInt8, leftN1 c' ⟨name, b, b.length⟩ = b.length := by
    intro c'
    unfold leftN1
    split
    · rfl
    · simp [Nat.mod_one]
  simp [crashM, namesM, crashL, crash1, e]
/-- A frame, as a slice of its own. -/
theorem s64o (H : Heap) (ls : List (List UInt8)) (hls : ls.length ≤ 1000) (hsz : ls.flatten.length ≤ 1000000) (h0 : 0 < ls.flatten.length) :
    Ab.Spec Try.prog 64 [.p (.lst (ls.map lstP))] H (fun r H' => ∃ id, OwnL H H' id (ls.flatten.map byteRow) ∧ r = .own id 1 0 ls.flatten.length none) := by
  refine Ab.Spec.walk hm Try.func64 (by kernel_rfl) 100 ?_
  repeat' (first
    | ((with_reducible apply Onw.mk); conv => whnf)
    | (with_reducible first | apply Br.tt | apply Br.ff | apply Br.no)
    | ((with_reducible apply Br.t); · assumption)
    | ((with_reducible apply Br.f); · assumption)
    | ((with_reducible apply Br.dt); · exact ab_known)
    | ((with_reducible apply Br.df); · exact ab_known)
    | (with_reducible first | refine Br.dec (fun hc => ?_) (fun hc => ?_) | refine Br.mk (fun hc => ?_) (fun hc => ?_))
    | ((with_reducible first | apply NeedRows.mk | apply NeedMap.mk | apply NeedIter.mk); · exact ab_look)
    | ((with_reducible apply NeedLen.mk); · first | assumption | rfl)
    | ((with_reducible apply NeedRow.mk); · exact ab_lookR)
    | ((with_reducible apply DrawG.mk (List.replicate 60 false)); · decide +kernel)
    | (with_reducible first | refine NewP.mk (fun id hid => ?_) | refine NilP.mk (fun e he => ?_))
    | (with_reducible first | exact trivial | exact And.intro rfl rfl)
    | ((with_reducible apply PreP.mk); · exact ab_asked)
    | refine Exists.intro _ (PreP.mk (bytesOf_lst _) ?_)
    | refine PreP.mk (lenD_lst _) ?_
    | (with_reducible first | refine PreP.mk ?_ ?_ | refine BothP.mk ?_ ?_)
    | ((with_reducible apply AncOr.anc); · decide +kernel)
    | with_reducible refine AncOr.go ?_)
  refine CallOK.go (CallOK.of_spec (s74 H ls hls hsz h0)) (fun r H1 hr => ?_)
  obtain ⟨id, hO, rfl⟩ := hr
  repeat' (first
    | ((with_reducible apply Onw.mk); conv => whnf)
    | (with_reducible first | apply Br.tt | apply Br.ff | apply Br.no)
    | ((with_reducible apply Br.t); · assumption)
    | ((with_reducible apply Br.f); · assumption)
    | ((with_reducible apply Br.dt); · exact ab_known)
    | ((with_reducible apply Br.df); · exact ab_known)
    | (with_reducible first | refine Br.dec (fun hc => ?_) (fun hc => ?_) | refine Br.mk (fun hc => ?_) (fun hc => ?_))
    | ((with_reducible first | apply NeedRows.mk | apply NeedMap.mk | apply NeedIter.mk); · exact ab_look)
    | ((with_reducible apply NeedLen.mk); · first | assumption | rfl)
    | ((with_reducible apply NeedRow.mk); · exact ab_lookR)
    | ((with_reducible apply DrawG.mk (List.replicate 60 false)); · decide +kernel)
    | (with_reducible first | refine NewP.mk (fun id hid => ?_) | refine NilP.mk (fun e he => ?_))
    | (with_reducible first | exact trivial | exact And.intro rfl rfl)
    | ((with_reducible apply PreP.mk); · exact ab_asked)
    | refine Exists.intro _ (PreP.mk (bytesOf_lst _) ?_)
    | refine PreP.mk (lenD_lst _) ?_
    | (with_reducible first | refine PreP.mk ?_ ?_ | refine BothP.mk ?_ ?_)
    | ((with_reducible apply AncOr.anc); · decide +kernel)
    | with_reducible refine AncOr.go ?_)
  exact ⟨id, hO, rfl⟩
theorem s38o (H : Heap) (s : List UInt8) (hs : s.length ≤ 4000) : Ab.Spec Try.prog 38 [.p (.str s)] H (fun r H' => ∃ id, OwnL H H' id ((frameL s).map byteRow) ∧ r = .own id 1 0 (frameL s).length none) := by
  have hw1 : IntKind.u64.wrap (s.length : Int) = s.length := wrapU64 (by omega)
  have hw2 : IntKind.u64.wrap (sumS s : Int) = sumS s := wrapU64 (by have := sumS_lt s; omega)
  refine Ab.Spec.walk hm Try.func38 (by kernel_rfl) 100 ?_
  repeat' (first
    | ((with_reducible apply Onw.mk); conv => whnf)
    | (with_reducible first | apply Br.tt | apply Br.ff | apply Br.no)
    | ((with_reducible apply Br.t); · assumption)
    | ((with_reducible apply Br.f); · assumption)
    | ((with_reducible apply Br.dt); · exact ab_known)
    | ((with_reducible apply Br.df); · exact ab_known)
    | (with_reducible first | refine Br.dec (fun hc => ?_) (fun hc => ?_) | refine Br.mk (fun hc => ?_) (fun hc => ?_))
    | ((with_reducible first | apply NeedRows.mk | apply NeedMap.mk | apply NeedIter.mk); · exact ab_look)
    | ((with_reducible apply NeedLen.mk); · first | assumption | rfl)
    | ((with_reducible apply NeedRow.mk); · exact ab_lookR)
    | ((with_reducible apply DrawG.mk (List.replicate 60 false)); · decide +kernel)
    | (with_reducible first | refine NewP.mk (fun id hid => ?_) | refine NilP.mk (fun e he => ?_))
    | (with_reducible first | exact trivial | exact And.intro rfl rfl)
    | ((with_reducible apply PreP.mk); · exact ab_asked)
    | refine Exists.intro _ (PreP.mk (bytesOf_lst _) ?_)
    | refine PreP.mk (lenD_lst _) ?_
    | (with_reducible first | refine PreP.mk ?_ ?_ | refine BothP.mk ?_ ?_)
    | ((with_reducible apply AncOr.anc); · decide +kernel)
    | with_reducible refine AncOr.go ?_)
  rw [hw1]
  refine CallOK.go (c65 H s.length (by omega)) (fun r H1 hr => ?_)
  obtain ⟨rfl, rfl⟩ := hr
  repeat' (first
    | ((with_reducible apply Onw.mk); conv => whnf)
    | (with_reducible first | apply Br.tt | apply Br.ff | apply Br.no)
    | ((with_reducible apply Br.t); · assumption)
    | ((with_reducible apply Br.f); · assumption)
    | ((with_reducible apply Br.dt); · exact ab_known)
    | ((with_reducible apply Br.df); · exact ab_known)
    | (with_reducible first | refine Br.dec (fun hc => ?_) (fun hc => ?_) | refine Br.mk (fun hc => ?_) (fun hc => ?_))
    | ((with_reducible first | apply NeedRows.mk | apply NeedMap.mk | apply NeedIter.mk); · exact ab_look)
    | ((with_reducible apply NeedLen.mk); · first | assumption | rfl)
    | ((with_reducible apply NeedRow.mk); · exact ab_lookR)
    | ((with_reducible apply DrawG.mk (List.replicate 60 false)); · decide +kernel)
    | (with_reducible first | refine NewP.mk (fun id hid => ?_) | refine NilP.mk (fun e he => ?_))
    | (with_reducible first | exact trivial | exact And.intro rfl rfl)
    | ((with_reducible apply PreP.mk); · exact ab_asked)
    | refine Exists.intro _ (PreP.mk (bytesOf_lst _) ?_)
    | refine PreP.mk (lenD_lst _) ?_
    | (with_reducible first | refine PreP.mk ?_ ?_ | refine BothP.mk ?_ ?_)
    | ((with_reducible apply AncOr.anc); · decide +kernel)
    | with_reducible refine AncOr.go ?_)
  refine NewSlice.bytes s rfl rfl rfl ?_
  repeat' (first
    | ((with_reducible apply Onw.mk); conv => whnf)
    | (with_reducible first | apply Br.tt | apply Br.ff | apply Br.no)
    | ((with_reducible apply Br.t); · assumption)
    | ((with_reducible apply Br.f); · assumption)
    | ((with_reducible apply Br.dt); · exact ab_known)
    | ((with_reducible apply Br.df); · exact ab_known)
    | (with_reducible first | refine Br.dec (fun hc => ?_) (fun hc => ?_) | refine Br.mk (fun hc => ?_) (fun hc => ?_))
    | ((with_reducible first | apply NeedRows.mk | apply NeedMap.mk | apply NeedIter.mk); · exact ab_look)
    | ((with_reducible apply NeedLen.mk); · first | assumption | rfl)
    | ((with_reducible apply NeedRow.mk); · exact ab_lookR)
    | ((with_reducible apply DrawG.mk (List.replicate 60 false)); · decide +kernel)
    | (with_reducible first | refine NewP.mk (fun id hid => ?_) | refine NilP.mk (fun e he => ?_))
    | (with_reducible first | exact trivial | exact And.intro rfl rfl)
    | ((with_reducible apply PreP.mk); · exact ab_asked)
    | refine Exists.intro _ (PreP.mk (bytesOf_lst _) ?_)
    | refine PreP.mk (lenD_lst _) ?_
    | (with_reducible first | refine PreP.mk ?_ ?_ | refine BothP.mk ?_ ?_)
    | ((with_reducible apply AncOr.anc); · decide +kernel)
    | with_reducible refine AncOr.go ?_)
  refine CallOK.go (c66 _ s (by omega)) (fun r H1 hr => ?_)
  obtain ⟨rfl, rfl⟩ := hr
  repeat' (first
    | ((with_reducible apply Onw.mk); conv => whnf)
    | (with_reducible first | apply Br.tt | apply Br.ff | apply Br.no)
    | ((with_reducible apply Br.t); · assumption)
    | ((with_reducible apply Br.f); · assumption)
    | ((with_reducible apply Br.dt); · exact ab_known)
    | ((with_reducible apply Br.df); · exact ab_known)
    | (with_reducible first | refine Br.dec (fun hc => ?_) (fun hc => ?_) | refine Br.mk (fun hc => ?_) (fun hc => ?_))
    | ((with_reducible first | apply NeedRows.mk | apply NeedMap.mk | apply NeedIter.mk); · exact ab_look)
    | ((with_reducible apply NeedLen.mk); · first | assumption | rfl)
    | ((with_reducible apply NeedRow.mk); · exact ab_lookR)
    | ((with_reducible apply DrawG.mk (List.replicate 60 false)); · decide +kernel)
    | (with_reducible first | refine NewP.mk (fun id hid => ?_) | refine NilP.mk (fun e he => ?_))
    | (with_reducible first | exact trivial | exact And.intro rfl rfl)
    | ((with_reducible apply PreP.mk); · exact ab_asked)
    | refine Exists.intro _ (PreP.mk (bytesOf_lst _) ?_)
    | refine PreP.mk (lenD_lst _) ?_
    | (with_reducible first | refine PreP.mk ?_ ?_ | refine BothP.mk ?_ ?_)
    | ((with_reducible apply AncOr.anc); · decide +kernel)
    | with_reducible refine AncOr.go ?_)
  rw [hw2]
  refine CallOK.go (c65 _ (sumS s) (by have := sumS_lt s; omega)) (fun r H1 hr => ?_)
  obtain ⟨rfl, rfl⟩ := hr
  repeat' (first
    | ((with_reducible apply Onw.mk); conv => whnf)
    | (with_reducible first | apply Br.tt | apply Br.ff | apply Br.no)
    | ((with_reducible apply Br.t); · assumption)
    | ((with_reducible apply Br.f); · assumption)
    | ((with_reducible apply Br.dt); · exact ab_known)
    | ((with_reducible apply Br.df); · exact ab_known)
    | (with_reducible first | refine Br.dec (fun hc => ?_) (fun hc => ?_) | refine Br.mk (fun hc => ?_) (fun hc => ?_))
    | ((with_reducible first | apply NeedRows.mk | apply NeedMap.mk | apply NeedIter.mk); · exact ab_look)
    | ((with_reducible apply NeedLen.mk); · first | assumption | rfl)
    | ((with_reducible apply NeedRow.mk); · exact ab_lookR)
    | ((with_reducible apply DrawG.mk (List.replicate 60 false)); · decide +kernel)
    | (with_reducible first | refine NewP.mk (fun id hid => ?_) | refine NilP.mk (fun e he => ?_))
    | (with_reducible first | exact trivial | exact And.intro rfl rfl)
    | ((with_reducible apply PreP.mk); · exact ab_asked)
    | refine Exists.intro _ (PreP.mk (bytesOf_lst _) ?_)
    | refine PreP.mk (lenD_lst _) ?_
    | (with_reducible first | refine PreP.mk ?_ ?_ | refine BothP.mk ?_ ?_)
    | ((with_reducible apply AncOr.anc); · decide +kernel)
    | with_reducible refine AncOr.go ?_)
  refine NewSlice.bytes s rfl rfl rfl ?_
  repeat' (first
    | ((with_reducible apply Onw.mk); conv => whnf)
    | (with_reducible first | apply Br.tt | apply Br.ff | apply Br.no)
    | ((with_reducible apply Br.t); · assumption)
    | ((with_reducible apply Br.f); · assumption)
    | ((with_reducible apply Br.dt); · exact ab_known)
    | ((with_reducible apply Br.df); · exact ab_known)
    | (with_reducible first | refine Br.dec (fun hc => ?_) (fun hc => ?_) | refine Br.mk (fun hc => ?_) (fun hc => ?_))
    | ((with_reducible first | apply NeedRows.mk | apply NeedMap.mk | apply NeedIter.mk); · exact ab_look)
    | ((with_reducible apply NeedLen.mk); · first | assumption | rfl)
    | ((with_reducible apply NeedRow.mk); · exact ab_lookR)
    | ((with_reducible apply DrawG.mk (List.replicate 60 false)); · decide +kernel)
    | (with_reducible first | refine NewP.mk (fun id hid => ?_) | refine NilP.mk (fun e he => ?_))
    | (with_reducible first | exact trivial | exact And.intro rfl rfl)
    | ((with_reducible apply PreP.mk); · exact ab_asked)
    | refine Exists.intro _ (PreP.mk (bytesOf_lst _) ?_)
    | refine PreP.mk (lenD_lst _) ?_
    | (with_reducible first | refine PreP.mk ?_ ?_ | refine BothP.mk ?_ ?_)
    | ((with_reducible apply AncOr.anc); · decide +kernel)
    | with_reducible refine AncOr.go ?_)
  refine NewSlice.lst ([putL s.length 4, putL (sumS s) 4, s].map lstP) rfl rfl (fun r hr => by obtain ⟨x, _, rfl⟩ := List.mem_map.1 hr; rfl) ?_
  repeat' (first
    | ((with_reducible apply Onw.mk); conv => whnf)
    | (with_reducible first | apply Br.tt | apply Br.ff | apply Br.no)
    | ((with_reducible apply Br.t); · assumption)
    | ((with_reducible apply Br.f); · assumption)
    | ((with_reducible apply Br.dt); · exact ab_known)
    | ((with_reducible apply Br.df); · exact ab_known)
    | (with_reducible first | refine Br.dec (fun hc => ?_) (fun hc => ?_) | refine Br.mk (fun hc => ?_) (fun hc => ?_))
    | ((with_reducible first | apply NeedRows.mk | apply NeedMap.mk | apply NeedIter.mk); · exact ab_look)
    | ((with_reducible apply NeedLen.mk); · first | assumption | rfl)
    | ((with_reducible apply NeedRow.mk); · exact ab_lookR)
    | ((with_reducible apply DrawG.mk (List.replicate 60 false)); · decide +kernel)
    | (with_reducible first | refine NewP.mk (fun id hid => ?_) | refine NilP.mk (fun e he => ?_))
    | (with_reducible first | exact trivial | exact And.intro rfl rfl)
    | ((with_reducible apply PreP.mk); · exact ab_asked)
    | refine Exists.intro _ (PreP.mk (bytesOf_lst _) ?_)
    | refine PreP.mk (lenD_lst _) ?_
    | (with_reducible first | refine PreP.mk ?_ ?_ | refine BothP.mk ?_ ?_)
    | ((with_reducible apply AncOr.anc); · decide +kernel)
    | with_reducible refine AncOr.go ?_)
  refine CallOK.go (CallOK.of_spec (s64o _ [putL s.length 4, putL (sumS s) 4, s] (by simp) (by simp [putL_len]; omega) (by simp [putL_len]; omega))) (fun r H1 hr => ?_)
  obtain ⟨id, hO, rfl⟩ := hr
  have e : ([putL s.length 4, putL (sumS s) 4, s]).flatten = frameL s := by simp [frameL]
  rw [e] at hO ⊢
  repeat' (first
    | ((with_reducible apply Onw.mk); conv => whnf)
    | (with_reducible first | apply Br.tt | apply Br.ff | apply Br.no)
    | ((with_reducible apply Br.t); · assumption)
    | ((with_reducible apply Br.f); · assumption)
    | ((with_reducible apply Br.dt); · exact ab_known)
    | ((with_reducible apply Br.df); · exact ab_known)
    | (with_reducible first | refine Br.dec (fun hc => ?_) (fun hc => ?_) | refine Br.mk (fun hc => ?_) (fun hc => ?_))
    | ((with_reducible first | apply NeedRows.mk | apply NeedMap.mk | apply NeedIter.mk); · exact ab_look)
    | ((with_reducible apply NeedLen.mk); · first | assumption | rfl)
    | ((with_reducible apply NeedRow.mk); · exact ab_lookR)
    | ((with_reducible apply DrawG.mk (List.replicate 60 false)); · decide +kernel)
    | (with_reducible first | refine NewP.mk (fun id hid => ?_) | refine NilP.mk (fun e he => ?_))
    | (with_reducible first | exact trivial | exact And.intro rfl rfl)
    | ((with_reducible apply PreP.mk); · exact ab_asked)
    | refine Exists.intro _ (PreP.mk (bytesOf_lst _) ?_)
    | refine PreP.mk (lenD_lst _) ?_
    | (with_reducible first | refine PreP.mk ?_ ?_ | refine BothP.mk ?_ ?_)
    | ((with_reducible apply AncOr.anc); · decide +kernel)
    | with_reducible refine AncOr.go ?_)
  exact ⟨id, hO, rfl⟩
end Go.Proofs.Ytanknokhbfijdaa
