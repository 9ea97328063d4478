/- What functions of the disk, and of the laws over it, do. Conditions: those that each theorem names. -/
import Derived.Test.YtanknokhbfijdaaD59
set_option linter.unusedVariables false
set_option linter.unusedSimpArgs false
namespace Go.Proofs.Ytanknokhbfijdaa
open Go.Ab
set_option maxRecDepth 100000
set_option maxHeartbeats 1000000
attribute [local irreducible] Run CallOK DetCall Br PreP BothP AncOr Onw NeedRows NeedMap NeedRow NeedLen NilP NeedIter RoundP EntryP EqP OptP NewP NewSlice NewMade AppTo DrawG anc drawB
theorem putL_valN {x : List UInt8} (h : x.length = 4) : putL (valN x) 4 = x := by
  match x, h with
  | [a, b, c, d], _ =>
    have ha := a.toNat_lt
    have hb := b.toNat_lt
    have hc := c.toNat_lt
    have hd := d.toNat_lt
    have e : putL (valN [a, b, c, d]) 4 = [UInt8.ofNat (valN [a, b, c, d] / 2 ^ (8 * 0)), UInt8.ofNat (valN [a, b, c, d] / 2 ^ (8 * 1)), UInt8.ofNat (valN [a, b, c, d] / 2 ^ (8 * 2)), UInt8.ofNat (valN [a, b, c, d] / 2 ^ (8 * 3))] := rfl
    have ev : valN [a, b, c, d] = a.toNat + 256 * (b.toNat + 256 * (c.toNat + 256 * (d.toNat + 256 * 0))) := rfl
    rw [e, ev]
    have k : ∀ (n : Nat) (y : UInt8), n % 256 = y.toNat → UInt8.ofNat n = y := fun n y hn => by
      rw [← UInt8.toNat_inj, UInt8.toNat_ofNat']; exact hn
    rw [k _ a (by omega), k _ b (by omega), k _ c (by omega), k _ d (by omega)]
theorem nextL_is {b r rest : List UInt8} (h : nextL b = some (r, rest)) : b = frameL r ++ rest := by
  unfold nextL at h
  split at h
  · cases h
  · split at h
    · cases h
    · rename_i h1 h2
      simp only [Option.some.injEq, Prod.mk.injEq] at h
      obtain ⟨rfl, rfl⟩ := h
      simp only [not_or, Nat.not_lt, ne_eq, Decidable.not_not] at h2
      obtain ⟨h3, h4, h5⟩ := h2
      have hl : ((b.drop 8).take (valN (b.take 4))).length = valN (b.take 4) := by rw [List.length_take]; omega
      unfold frameL
      rw [hl, h5, putL_valN (by rw [List.length_take]; omega), putL_valN (by rw [List.length_take, List.length_drop]; omega), List.append_assoc, List.append_assoc, List.take_append_drop]
      have : b.drop 8 = (b.drop 4).drop 4 := by rw [List.drop_drop]
      rw [this, List.take_append_drop, List.take_append_drop]
theorem scanL_is : ∀ (k : Nat) (b : List UInt8), b.length ≤ k → framesL (scanL b).1 ++ (scanL b).2 = b ∧ ∀ s ∈ (scanL b).1, s.length ≤ 4000
  | 0, b, h => by
    obtain rfl : b = [] := List.length_eq_zero_iff.1 (by omega)
    rw [scanL_short [] (by simp)]
    exact ⟨rfl, by simp⟩
  | k + 1, b, h => by
    cases hn : nextL b with
    | none => rw [scanL_none hn]; exact ⟨rfl, by simp⟩
    | some x =>
      obtain ⟨r, rest⟩ := x
      have hl := nextL_len hn
      have ih := scanL_is k rest (by omega)
      rw [scanL_some hn, framesL_cons, List.append_assoc, ih.1]
      exact ⟨(nextL_is hn).symm, fun s hs => by
        rcases List.mem_cons.1 hs with rfl | hs
        · exact hl.2
        · exact ih.2 s hs⟩
/-- Open where the last of a file's records is torn. -/
theorem a41torn {H : Heap} {d : Nat} {st q : Int} {b : List UInt8} {kp : Nat} {ids : List Nat} (h : DiskIs H d ⟨st, 0, q, [⟨nLog, b, kp⟩]⟩ ids) (h0 : 0 ≤ st) (h1 : st < 999999990000) (hq2 : q ≤ 1000000) (hq : 2 * (b.length : Int) ≤ q) (hcl : b.length ≤ 100000) (hw : (scanL b).2 ≠ []) :
    CallOK Try.prog 41 [.ptr d 0 0, .p (.str nLog)] H (fun r H' => ∃ lid ids', LogIs H' lid d (st + 1 + 1 + 1) q (scanL b).1 ids' ∧ Goes H ids H' (lid :: ids') ∧ r = .tup [.ptr lid 0 0, .p (.lst ((scanL b).1.map strRow)), i64 0]) := by
  refine CallOK.of_spec ?_
  have hR : readM ⟨st, 0, q, [⟨nLog, b, kp⟩]⟩ nLog = .tup [.p (.lst (b.map byteRow)), i64 0] := by unfold readM; rw [find_one]; simp [offB]
  have hlb : ((b.map byteRow).length : Int) = b.length := by simp
  have hlr : (((scanL b).1.map strRow).length : Int) = (scanL b).1.length := by simp
  have hw0 : (scanL b).2.length ≠ 0 := fun e => hw (List.length_eq_zero_iff.1 e)
  have hwl := (scanL_len b).1
  obtain ⟨n, hn⟩ : ∃ n, n = b.length - (scanL b).2.length := ⟨_, rfl⟩
  have hnl : n < b.length := by omega
  have htk : b.take n = framesL (scanL b).1 := by
    have e := (scanL_is b.length b (Nat.le_refl _)).1
    have el := congrArg List.length e
    rw [List.length_append] at el
    conv => lhs; rw [← e]
    rw [List.take_append_of_le_length (by omega), List.take_of_length_le (by omega)]
  have hlt : (b.take n).length ≤ b.length := by rw [List.length_take]; omega
  have hl := h.lt
  obtain ⟨H0, hH0⟩ : ∃ H0, H0 = H ++ [.rows [[.ptr d 0 0, .p (.str nLog)]]] := ⟨_, rfl⟩
  have hg0 : Goes H [] H0 [] := by rw [hH0]; exact Goes.app H _ []
  have hd0 : DiskIs H0 d ⟨st, 0, q, [⟨nLog, b, kp⟩]⟩ ids := h.move hg0 (fun j _ hj => by cases hj)
  obtain ⟨H1, hc1, ids1, hd1, hg1⟩ := a68 hd0 h0 h1 hq2 (b.take n) (by omega) (by omega)
  have hgi : Goes H ids H0 ids := ⟨fun j o _ ho => hg0.out j o (by simp) ho, fun _ h => .inl h, hg0.len⟩
  have hrow0 : nth H0 H.length = some (.rows [[.ptr d 0 0, .p (.str nLog)]]) := by rw [hH0]; exact nth_new rfl
  have hout0 : H.length ∉ ids := fun e => by have := hl _ e; omega
  have hrow1 := hg1.out _ _ hout0 hrow0
  have hset : ∀ o, setN (H ++ [o]) H.length (.rows [[.ptr d 0 0, .p (.str nLog)]]) = H0 := fun o => by rw [hH0]; exact setN_last rfl
  refine Ab.Spec.walk hm Try.func41 (by kernel_rfl) 200 ?_
  repeat' (first
    | ((with_reducible apply Onw.mk); conv => whnf)
    | (with_reducible first | apply Br.tt | apply Br.ff | apply Br.no)
    | ((with_reducible apply Br.t); · assumption)
    | ((with_reducible apply Br.f); · assumption)
    | ((with_reducible apply Br.dt); · exact ab_known)
    | ((with_reducible apply Br.df); · exact ab_known)
    | (with_reducible first | refine Br.dec (fun hc => ?_) (fun hc => ?_) | refine Br.mk (fun hc => ?_) (fun hc => ?_))
    | ((with_reducible first | apply NeedRows.mk | apply NeedMap.mk | apply NeedIter.mk); · exact ab_look)
    | ((with_reducible apply NeedLen.mk); · first | assumption | rfl)
    | ((with_reducible apply NeedRow.mk); · exact ab_lookR)
    | ((with_reducible apply DrawG.mk (List.replicate 60 false)); · decide +kernel)
    | (with_reducible first | refine NewP.mk (fun id hid => ?_) | refine NilP.mk (fun e he => ?_))
    | (with_reducible first | exact trivial | exact And.intro rfl rfl)
    | ((with_reducible apply PreP.mk); · exact ab_asked)
    | refine Exists.intro _ (PreP.mk (bytesOf_lst _) ?_)
    | refine PreP.mk (lenD_lst _) ?_
    | (with_reducible first | refine PreP.mk ?_ ?_ | refine BothP.mk ?_ ?_)
    | ((with_reducible apply AncOr.anc); · decide +kernel)
    | with_reducible refine AncOr.go ?_)
  refine CallOK.go (a19 h nLog) (fun r H4 hr => ?_)
  obtain ⟨rfl, rfl⟩ := hr
  rw [hR]
  repeat' (first
    | ((with_reducible apply Onw.mk); conv => whnf)
    | (with_reducible first | apply Br.tt | apply Br.ff | apply Br.no)
    | ((with_reducible apply Br.t); · assumption)
    | ((with_reducible apply Br.f); · assumption)
    | ((with_reducible apply Br.dt); · exact ab_known)
    | ((with_reducible apply Br.df); · exact ab_known)
    | (with_reducible first | refine Br.dec (fun hc => ?_) (fun hc => ?_) | refine Br.mk (fun hc => ?_) (fun hc => ?_))
    | ((with_reducible first | apply NeedRows.mk | apply NeedMap.mk | apply NeedIter.mk); · exact ab_look)
    | ((with_reducible apply NeedLen.mk); · first | assumption | rfl)
    | ((with_reducible apply NeedRow.mk); · exact ab_lookR)
    | ((with_reducible apply DrawG.mk (List.replicate 60 false)); · decide +kernel)
    | (with_reducible first | refine NewP.mk (fun id hid => ?_) | refine NilP.mk (fun e he => ?_))
    | (with_reducible first | exact trivial | exact And.intro rfl rfl)
    | ((with_reducible apply PreP.mk); · exact ab_asked)
    | refine Exists.intro _ (PreP.mk (bytesOf_lst _) ?_)
    | refine PreP.mk (lenD_lst _) ?_
    | (with_reducible first | refine PreP.mk ?_ ?_ | refine BothP.mk ?_ ?_)
    | ((with_reducible apply AncOr.anc); · decide +kernel)
    | with_reducible refine AncOr.go ?_)
  refine CallOK.go (c36 _ b (by omega)) (fun r H4 hr => ?_)
  obtain ⟨rfl, rfl⟩ := hr
  rw [← hn]
  repeat' (first
    | ((with_reducible apply Onw.mk); conv => whnf)
    | (with_reducible first | apply Br.tt | apply Br.ff | apply Br.no)
    | ((with_reducible apply Br.t); · assumption)
    | ((with_reducible apply Br.f); · assumption)
    | ((with_reducible apply Br.dt); · exact ab_known)
    | ((with_reducible apply Br.df); · exact ab_known)
    | (with_reducible first | refine Br.dec (fun hc => ?_) (fun hc => ?_) | refine Br.mk (fun hc => ?_) (fun hc => ?_))
    | ((with_reducible apply DrawG.mk [false, false, false, false, true, false]); · decide +kernel)
    | ((with_reducible first | apply NeedRows.mk | apply NeedMap.mk | apply NeedIter.mk); · exact ab_look)
    | ((with_reducible apply NeedLen.mk); · first | assumption | rfl)
    | ((with_reducible apply NeedRow.mk); · exact ab_lookR)
    | ((with_reducible apply DrawG.mk (List.replicate 60 false)); · decide +kernel)
    | (with_reducible first | refine NewP.mk (fun id hid => ?_) | refine NilP.mk (fun e he => ?_))
    | (with_reducible first | exact trivial | exact And.intro rfl rfl)
    | ((with_reducible apply PreP.mk); · exact ab_asked)
    | refine Exists.intro _ (PreP.mk (bytesOf_lst _) ?_)
    | refine PreP.mk (lenD_lst _) ?_
    | (with_reducible first | refine PreP.mk ?_ ?_ | refine BothP.mk ?_ ?_)
    | ((with_reducible apply AncOr.anc); · decide +kernel)
    | with_reducible refine AncOr.go ?_)
  · exact ⟨by omega, by omega, by omega, byteRow_one⟩
  subst hid
  rw [bytes_take]
  refine DetCall.go (H' := H1) (r := i64 0) ?_ ?_
  · have e := hset (.rows [List.map D.p (List.map constP0 #[Value.pointer none, Value.string ⟨#[]⟩].toList)])
    rw [← e] at hc1; exact hc1
  repeat' (first
    | ((with_reducible apply Onw.mk); conv => whnf)
    | (with_reducible first | apply Br.tt | apply Br.ff | apply Br.no)
    | ((with_reducible apply Br.t); · assumption)
    | ((with_reducible apply Br.f); · assumption)
    | ((with_reducible apply Br.dt); · exact ab_known)
    | ((with_reducible apply Br.df); · exact ab_known)
    | (with_reducible first | refine Br.dec (fun hc => ?_) (fun hc => ?_) | refine Br.mk (fun hc => ?_) (fun hc => ?_))
    | ((with_reducible first | apply NeedRows.mk | apply NeedMap.mk | apply NeedIter.mk); · exact ab_look)
    | ((with_reducible apply NeedLen.mk); · first | assumption | rfl)
    | ((with_reducible apply NeedRow.mk); · exact ab_lookR)
    | ((with_reducible apply DrawG.mk (List.replicate 60 false)); · decide +kernel)
    | (with_reducible first | refine NewP.mk (fun id hid => ?_) | refine NilP.mk (fun e he => ?_))
    | (with_reducible first | exact trivial | exact And.intro rfl rfl)
    | ((with_reducible apply PreP.mk); · exact ab_asked)
    | refine Exists.intro _ (PreP.mk (bytesOf_lst _) ?_)
    | refine PreP.mk (lenD_lst _) ?_
    | (with_reducible first | refine PreP.mk ?_ ?_ | refine BothP.mk ?_ ?_)
    | ((with_reducible apply AncOr.anc); · decide +kernel)
    | with_reducible refine AncOr.go ?_)
  have hg01 := hgi.trans hg1
  rw [htk] at hd1
  have hlt1 := hd1.lt
  rw [hlr]
  refine ⟨id, ids1, ⟨nth_new hid, hd1.move (Goes.app H1 _ []) (fun j _ hj => by cases hj), fun e => by have := hlt1 id e; omega⟩, ⟨fun j o hj ho => nth_app (hg01.out j o hj ho), fun j hj => ?_, by have := hg01.len; simp; omega⟩, rfl⟩
  rcases List.mem_cons.1 hj with rfl | hj
  · right; rw [hid]; exact hg01.len
  · exact hg01.ids j hj
theorem a41any {H : Heap} {d : Nat} {st q : Int} {b : List UInt8} {ids : List Nat} (h : DiskIs H d ⟨st, 0, q, [⟨nLog, b, b.length⟩]⟩ ids) (h0 : 0 ≤ st) (h1 : st < 999999990000) (hq2 : q ≤ 1000000) (hq : 2 * (b.length : Int) ≤ q) (hcl : b.length ≤ 100000) :
    CallOK Try.prog 41 [.ptr d 0 0, .p (.str nLog)] H (fun r H' => ∃ st' lid ids', 0 ≤ st' ∧ st' ≤ st + 3 ∧ LogIs H' lid d st' q (scanL b).1 ids' ∧ Goes H ids H' (lid :: ids') ∧ r = .tup [.ptr lid 0 0, .p (.lst ((scanL b).1.map strRow)), i64 0]) := by
  have hs := scanL_is b.length b (Nat.le_refl _)
  by_cases hw : (scanL b).2 = []
  · have hb := hs.1
    rw [hw, List.append_nil] at hb
    have hd : DiskIs H d (logDs st q (scanL b).1) ids := by unfold logDs; rw [hb]; exact h
    refine (a41_log hd (by rw [hb]; omega) hs.2).mono fun r H' hr => ?_
    obtain ⟨⟨l, rfl⟩, lid, hlid, hL, rfl⟩ := hr
    refine ⟨st, lid, ids, h0, by omega, hL, ⟨fun j o _ ho => nth_app ho, fun j hj => ?_, by simp⟩, rfl⟩
    rcases List.mem_cons.1 hj with rfl | hj
    · exact .inr hlid
    · exact .inl hj
  · refine (a41torn h h0 h1 hq2 hq hcl hw).mono fun r H' hr => ?_
    obtain ⟨lid, ids', hL, hg, rfl⟩ := hr
    exact ⟨st + 1 + 1 + 1, lid, ids', by omega, by omega, hL, hg, rfl⟩
end Go.Proofs.Ytanknokhbfijdaa
