/- What functions of the disk, and of the laws over it, do. Conditions: those that each theorem names. -/
import Derived.Test.YtanknokhbfijdaaD15
namespace Go.Proofs.Ytanknokhbfijdaa
open Go.Ab
set_option maxRecDepth 100000
set_option maxHeartbeats 1000000
attribute [local irreducible] Run CallOK DetCall Br PreP BothP AncOr Onw NeedRows NeedMap NeedRow NeedLen NilP NeedIter RoundP EntryP EqP OptP NewP NewSlice NewMade AppTo DrawG anc drawB
/-- The disk of the law, behind so many rounds. -/
def PowM (m : Ds) (k i : Nat) : Prop := m.steps = i ∧ m.off = k ∧ m.quota = 1000 ∧ ((m.files = [] ∧ min i (k - 1) = 0) ∨ ∃ b : List UInt8, m.files = [⟨[102], b, 0⟩] ∧ b.length = min i (k - 1) ∧ 0 < min i (k - 1))
theorem PowM.ok {m : Ds} {k i : Nat} (h : PowM m k i) (hi : i ≤ 100) (hk : k ≤ 100) : DsOK m := by
  obtain ⟨h1, h2, h3, ⟨h4, h5⟩ | ⟨b, h4, h5, h6⟩⟩ := h
  · exact ⟨by omega, by omega, by simp [usedM, h4], by simp [h4]⟩
  · exact ⟨by omega, by omega, by simp [usedM, h4]; omega, by simp [h4]⟩
theorem PowM.app {m : Ds} {k i : Nat} (h : PowM m k i) (hi : i ≤ 100) (hk : 1 ≤ k ∧ k ≤ 100) (x : UInt8) : appendR m [102] [x] = (if k ≤ i + 1 then 212 else 0) ∧ PowM (appendM m [102] [x]) k (i + 1) := by
  obtain ⟨h1, h2, h3, h4⟩ := h
  have hname : okName [102] = true := by decide
  rcases Nat.lt_or_ge (i + 1) k with hlt | hge
  · have hoff : offB (m.steps + 1) m.off = false := by rw [h1, h2]; simp [offB]; omega
    have hw : ∀ u : Nat, u ≤ 100 → IntKind.i64.wrap (m.quota - (u : Int)) = 1000 - u := fun u hu => by rw [h3]; exact wrap64 (by omega) (by omega)
    rcases h4 with ⟨h4, h5⟩ | ⟨b, h4, h5, h6⟩
    · have hfull : fullM m [x].length (findM m [102]).isSome = false := by
        simp [fullM, findM, usedM, h4, h3]
        decide
      have hR : appendR m [102] [x] = 0 := by unfold appendR; rw [hoff, hname, hfull]; rfl
      refine ⟨by rw [hR, if_neg (by omega)], ?_⟩
      unfold appendM
      rw [hR]
      refine ⟨by simp [stepM, h1], by simp [stepM, h2], by simp [stepM, h3], .inr ⟨[x], by simp [stepM, addP, h4], by simp; omega, by omega⟩⟩
    · have hfull : fullM m [x].length (findM m [102]).isSome = false := by
        have := hw b.length (by omega)
        have hu : usedM m = b.length := by simp [usedM, h4]
        simp only [fullM, hu, this]
        simp [findM, h4]
        omega
      have hR : appendR m [102] [x] = 0 := by unfold appendR; rw [hoff, hname, hfull]; rfl
      refine ⟨by rw [hR, if_neg (by omega)], ?_⟩
      unfold appendM
      rw [hR]
      refine ⟨by simp [stepM, h1], by simp [stepM, h2], by simp [stepM, h3], .inr ⟨b ++ [x], by simp [stepM, addP, h4], by simp; omega, by omega⟩⟩
  · have hoff : offB (m.steps + 1) m.off = true := by rw [h1, h2]; simp [offB]; omega
    have hR : appendR m [102] [x] = 212 := by unfold appendR; rw [hoff]; rfl
    refine ⟨by rw [hR, if_pos hge], ?_⟩
    unfold appendM
    rw [hR]
    refine ⟨by simp [stepM, h1], by simp [stepM, h2], by simp [stepM, h3], ?_⟩
    rcases h4 with ⟨h4, h5⟩ | ⟨b, h4, h5, h6⟩
    · exact .inl ⟨by simp [stepM, h4], by omega⟩
    · exact .inr ⟨b, by simp [stepM, h4], by omega, by omega⟩
theorem PowM.read {m : Ds} {k i : Nat} (h : PowM m k i) (hk : 1 ≤ k) : (k ≤ i → readM m [102] = .tup [.p .nil, i64 212] ∧ listM m = .p .nil) ∧
    (i < k → 0 < i → ∃ b : List UInt8, readM m [102] = .tup [.p (.lst (b.map byteRow)), i64 0] ∧ listM m = .p (.lst [strRow [102]])) := by
  obtain ⟨h1, h2, h3, h4⟩ := h
  refine ⟨fun hki => ?_, fun hik h0 => ?_⟩
  · have hoff : offB m.steps m.off = true := by rw [h1, h2]; simp [offB]; omega
    exact ⟨by simp [readM, hoff], by simp [listM, hoff]⟩
  · have hoff : offB m.steps m.off = false := by rw [h1, h2]; simp [offB]; omega
    rcases h4 with ⟨h4, h5⟩ | ⟨b, h4, h5, h6⟩
    · omega
    · exact ⟨b, by simp [readM, hoff, findM, h4], by simp [listM, hoff, namesM, h4]⟩
theorem PowM.end_ {m : Ds} {k i : Nat} (h : PowM m k i) (hi : i ≤ 100) (hk : k ≤ 100) : usedM (crashM m [255]) = min i (k - 1) ∧ DsOK (crashM m [255]) ∧ appendR (crashM m [255]) [103] [] = 0 ∧ (appendM (crashM m [255]) [103] []).steps = i + 1 := by
  have hname : okName [103] = true := by decide
  obtain ⟨h1, h2, h3, ⟨h4, h5⟩ | ⟨b, h4, h5, h6⟩⟩ := h
  · have e : crashM m [255] = ⟨i, 0, 1000, []⟩ := by simp [crashM, namesM, h4, crashL, h1, h3]
    rw [e]
    have hR : appendR ⟨i, 0, 1000, []⟩ [103] [] = 0 := by
      have hoff : offB ((i : Int) + 1) 0 = false := by simp [offB]
      unfold appendR
      rw [hoff, hname]
      simp [fullM, findM, usedM]
      decide
    refine ⟨by simp [usedM, h5], ⟨by simp, by simp; omega, by simp [usedM], by simp⟩, hR, ?_⟩
    unfold appendM; rw [hR]; rfl
  · have e : crashM m [255] = ⟨i, 0, 1000, [⟨[102], b, b.length⟩]⟩ := by simp [crashM, namesM, h4, crashL, crash1, leftN1, h1, h3]
    rw [e]
    have hR : appendR ⟨i, 0, 1000, [⟨[102], b, b.length⟩]⟩ [103] [] = 0 := by
      have hoff : offB ((i : Int) + 1) 0 = false := by simp [offB]
      have hw : IntKind.i64.wrap (1000 - (b.length : Int)) = 1000 - b.length := wrap64 (by omega) (by omega)
      unfold appendR
      rw [hoff, hname]
      simp only [fullM, findM, usedM, List.map_cons, List.map_nil, List.sum_cons, List.sum_nil, Nat.add_zero, hw]
      have hb : decide ((1000 : Int) - b.length < 0) = false := decide_eq_false (by omega)
      simp [hb]
    refine ⟨by simp [usedM, h5], ⟨by simp, by simp; omega, by simp [usedM]; omega, by simp⟩, hR, ?_⟩
    unfold appendM; rw [hR]; rfl
theorem s5 (a n : Nat) (ha : a < 256) (hn : n < 256) : Ab.Spec Try.prog 5 [.p (.int .u8 a), .p (.int .u8 n)] [] (fun r _ => r = boolD true) := by
  refine Ab.Spec.walk hm Try.func5 (by kernel_rfl) 300 ?_
  repeat' (first
      | ((with_reducible apply Onw.mk); conv => whnf)
      | with_reducible apply Br.tt
      | with_reducible apply Br.ff
      | with_reducible apply Br.no
      | ((with_reducible apply Br.t); · (assumption))
      | ((with_reducible apply Br.f); · (assumption))
      | ((with_reducible apply Br.dt); · (first | assumption | omega))
      | ((with_reducible apply Br.df); · (first | assumption | omega))
      | with_reducible refine Br.dec (fun hc => ?_) (fun hc => ?_)
      | with_reducible refine Br.mk (fun hc => ?_) (fun hc => ?_)
      | ((with_reducible apply NeedRows.mk); · ((first | assumption | ((repeat (first | assumption | with_reducible apply nth_setN_same | ((with_reducible refine nth_setN_ne ?_ ?_); (first | assumption | omega | (simp; omega))) | ((with_reducible apply nth_new); (first | assumption | (simp only [setN_length, List.length_append, List.length_cons, List.length_nil]; omega))) | with_reducible apply nth_app)); done))))
      | ((with_reducible apply NeedMap.mk); · ((first | assumption | ((repeat (first | assumption | with_reducible apply nth_setN_same | ((with_reducible refine nth_setN_ne ?_ ?_); (first | assumption | omega | (simp; omega))) | ((with_reducible apply nth_new); (first | assumption | (simp only [setN_length, List.length_append, List.length_cons, List.length_nil]; omega))) | with_reducible apply nth_app)); done))))
      | ((with_reducible apply NeedIter.mk); · ((first | assumption | ((repeat (first | assumption | with_reducible apply nth_setN_same | ((with_reducible refine nth_setN_ne ?_ ?_); (first | assumption | omega | (simp; omega))) | ((with_reducible apply nth_new); (first | assumption | (simp only [setN_length, List.length_append, List.length_cons, List.length_nil]; omega))) | with_reducible apply nth_app)); done))))
      | ((with_reducible apply NeedLen.mk); · (first | assumption | rfl))
      | ((with_reducible apply NeedRow.mk); · (first | rfl | (first | assumption | ((repeat (first | assumption | with_reducible apply nth_setN_same | ((with_reducible refine nth_setN_ne ?_ ?_); (first | assumption | omega | (simp; omega))) | ((with_reducible apply nth_new); (first | assumption | (simp only [setN_length, List.length_append, List.length_cons, List.length_nil]; omega))) | with_reducible apply nth_app)); done))))
      | ((with_reducible apply DrawG.mk (List.replicate 60 false)); · (decide +kernel))
      | with_reducible refine NewP.mk (fun id hid => ?_)
      | with_reducible refine NilP.mk (fun e he => ?_)
      | with_reducible exact trivial
      | with_reducible exact And.intro rfl rfl
      | ((with_reducible apply PreP.mk); · (first | with_reducible rfl | assumption | omega | (constructor <;> omega)))
      | with_reducible refine PreP.mk ?_ ?_
      | with_reducible refine BothP.mk ?_ ?_
      | refine Exists.intro _ (PreP.mk (bytesOf_lst _) ?_)
      | refine PreP.mk (lenD_lst _) ?_
      | ((with_reducible apply AncOr.anc); · (decide +kernel))
      | with_reducible refine AncOr.go ?_)
  refine CallOK.go (c14 _) (fun r H0 hr => ?_)
  obtain ⟨rfl, rfl⟩ := hr
  repeat' (first
      | ((with_reducible apply Onw.mk); conv => whnf)
      | with_reducible apply Br.tt
      | with_reducible apply Br.ff
      | with_reducible apply Br.no
      | ((with_reducible apply Br.t); · (assumption))
      | ((with_reducible apply Br.f); · (assumption))
      | ((with_reducible apply Br.dt); · (first | assumption | omega))
      | ((with_reducible apply Br.df); · (first | assumption | omega))
      | with_reducible refine Br.dec (fun hc => ?_) (fun hc => ?_)
      | with_reducible refine Br.mk (fun hc => ?_) (fun hc => ?_)
      | ((with_reducible apply NeedRows.mk); · ((first | assumption | ((repeat (first | assumption | with_reducible apply nth_setN_same | ((with_reducible refine nth_setN_ne ?_ ?_); (first | assumption | omega | (simp; omega))) | ((with_reducible apply nth_new); (first | assumption | (simp only [setN_length, List.length_append, List.length_cons, List.length_nil]; omega))) | with_reducible apply nth_app)); done))))
      | ((with_reducible apply NeedMap.mk); · ((first | assumption | ((repeat (first | assumption | with_reducible apply nth_setN_same | ((with_reducible refine nth_setN_ne ?_ ?_); (first | assumption | omega | (simp; omega))) | ((with_reducible apply nth_new); (first | assumption | (simp only [setN_length, List.length_append, List.length_cons, List.length_nil]; omega))) | with_reducible apply nth_app)); done))))
      | ((with_reducible apply NeedIter.mk); · ((first | assumption | ((repeat (first | assumption | with_reducible apply nth_setN_same | ((with_reducible refine nth_setN_ne ?_ ?_); (first | assumption | omega | (simp; omega))) | ((with_reducible apply nth_new); (first | assumption | (simp only [setN_length, List.length_append, List.length_cons, List.length_nil]; omega))) | with_reducible apply nth_app)); done))))
      | ((with_reducible apply NeedLen.mk); · (first | assumption | rfl))
      | ((with_reducible apply NeedRow.mk); · (first | rfl | (first | assumption | ((repeat (first | assumption | with_reducible apply nth_setN_same | ((with_reducible refine nth_setN_ne ?_ ?_); (first | assumption | omega | (simp; omega))) | ((with_reducible apply nth_new); (first | assumption | (simp only [setN_length, List.length_append, List.length_cons, List.length_nil]; omega))) | with_reducible apply nth_app)); done))))
      | ((with_reducible apply DrawG.mk (List.replicate 60 false)); · (decide +kernel))
      | with_reducible refine NewP.mk (fun id hid => ?_)
      | with_reducible refine NilP.mk (fun e he => ?_)
      | with_reducible exact trivial
      | with_reducible exact And.intro rfl rfl
      | ((with_reducible apply PreP.mk); · (first | with_reducible rfl | assumption | omega | (constructor <;> omega)))
      | with_reducible refine PreP.mk ?_ ?_
      | with_reducible refine BothP.mk ?_ ?_
      | refine Exists.intro _ (PreP.mk (bytesOf_lst _) ?_)
      | refine PreP.mk (lenD_lst _) ?_
      | ((with_reducible apply AncOr.anc); · (decide +kernel))
      | with_reducible refine AncOr.go ?_)
  refine CallOK.go (a15 _ _) (fun r H0 hr => ?_)
  obtain ⟨d, ids0, rfl, hd0, hg0⟩ := hr
  repeat' (first
      | ((with_reducible apply Onw.mk); conv => whnf)
      | with_reducible apply Br.tt
      | with_reducible apply Br.ff
      | with_reducible apply Br.no
      | ((with_reducible apply Br.t); · (assumption))
      | ((with_reducible apply Br.f); · (assumption))
      | ((with_reducible apply Br.dt); · (first | assumption | omega))
      | ((with_reducible apply Br.df); · (first | assumption | omega))
      | with_reducible refine Br.dec (fun hc => ?_) (fun hc => ?_)
      | with_reducible refine Br.mk (fun hc => ?_) (fun hc => ?_)
      | ((with_reducible apply NeedRows.mk); · ((first | assumption | ((repeat (first | assumption | with_reducible apply nth_setN_same | ((with_reducible refine nth_setN_ne ?_ ?_); (first | assumption | omega | (simp; omega))) | ((with_reducible apply nth_new); (first | assumption | (simp only [setN_length, List.length_append, List.length_cons, List.length_nil]; omega))) | with_reducible apply nth_app)); done))))
      | ((with_reducible apply NeedMap.mk); · ((first | assumption | ((repeat (first | assumption | with_reducible apply nth_setN_same | ((with_reducible refine nth_setN_ne ?_ ?_); (first | assumption | omega | (simp; omega))) | ((with_reducible apply nth_new); (first | assumption | (simp only [setN_length, List.length_append, List.length_cons, List.length_nil]; omega))) | with_reducible apply nth_app)); done))))
      | ((with_reducible apply NeedIter.mk); · ((first | assumption | ((repeat (first | assumption | with_reducible apply nth_setN_same | ((with_reducible refine nth_setN_ne ?_ ?_); (first | assumption | omega | (simp; omega))) | ((with_reducible apply nth_new); (first | assumption | (simp only [setN_length, List.length_append, List.length_cons, List.length_nil]; omega))) | with_reducible apply nth_app)); done))))
      | ((with_reducible apply NeedLen.mk); · (first | assumption | rfl))
      | ((with_reducible apply NeedRow.mk); · (first | rfl | (first | assumption | ((repeat (first | assumption | with_reducible apply nth_setN_same | ((with_reducible refine nth_setN_ne ?_ ?_); (first | assumption | omega | (simp; omega))) | ((with_reducible apply nth_new); (first | assumption | (simp only [setN_length, List.length_append, List.length_cons, List.length_nil]; omega))) | with_reducible apply nth_app)); done))))
      | ((with_reducible apply DrawG.mk (List.replicate 60 false)); · (decide +kernel))
      | with_reducible refine NewP.mk (fun id hid => ?_)
      | with_reducible refine NilP.mk (fun e he => ?_)
      | with_reducible exact trivial
      | with_reducible exact And.intro rfl rfl
      | ((with_reducible apply PreP.mk); · (first | with_reducible rfl | assumption | omega | (constructor <;> omega)))
      | with_reducible refine PreP.mk ?_ ?_
      | with_reducible refine BothP.mk ?_ ?_
      | refine Exists.intro _ (PreP.mk (bytesOf_lst _) ?_)
      | refine PreP.mk (lenD_lst _) ?_
      | ((with_reducible apply AncOr.anc); · (decide +kernel))
      | with_reducible refine AncOr.go ?_)
  have hw1 : IntKind.i64.wrap (IntKind.i64.wrap ((a : Int).tmod 12) + 1) = ((a % 12 + 1 : Nat) : Int) := by
    have e : ((a : Int).tmod 12) = ((a % 12 : Nat) : Int) := (Int.ofNat_tmod a 12).symm
    have := Nat.mod_lt a (show 12 > 0 by decide)
    rw [e, wrap64 (n := ((a % 12 : Nat) : Int)) (by omega) (by omega), wrap64 (by omega) (by omega)]
    omega
  have hk1 : 1 ≤ a % 12 + 1 ∧ a % 12 + 1 ≤ 12 := by have := Nat.mod_lt a (show 12 > 0 by decide); omega
  rw [hw1]
  generalize a % 12 + 1 = k at hk1 hw1
  refine CallOK.go (a22 hd0 ⟨by decide, by decide, by decide, by decide⟩ _) (fun r H1 hr => ?_)
  obtain ⟨rfl, hd1, hg1⟩ := hr
  have hp : powerAt 0 0 (k : Int) = k := by
    unfold powerAt
    simp [offB]
    omega
  rw [hp] at hd1
  have hn2 : IntKind.i64.wrap ((n : Int).tmod 20) = ((n % 20 : Nat) : Int) := by
    have e : ((n : Int).tmod 20) = ((n % 20 : Nat) : Int) := (Int.ofNat_tmod n 20).symm
    have := Nat.mod_lt n (show 20 > 0 by decide)
    rw [e, wrap64 (by omega) (by omega)]
  have hn3 : n % 20 < 20 := Nat.mod_lt n (by decide)
  repeat' (first
      | ((with_reducible apply Onw.mk); conv => whnf)
      | with_reducible apply Br.tt
      | with_reducible apply Br.ff
      | with_reducible apply Br.no
      | ((with_reducible apply Br.t); · (assumption))
      | ((with_reducible apply Br.f); · (assumption))
      | ((with_reducible apply Br.dt); · (first | assumption | omega))
      | ((with_reducible apply Br.df); · (first | assumption | omega))
      | with_reducible refine Br.dec (fun hc => ?_) (fun hc => ?_)
      | with_reducible refine Br.mk (fun hc => ?_) (fun hc => ?_)
      | ((with_reducible apply NeedRows.mk); · ((first | assumption | ((repeat (first | assumption | with_reducible apply nth_setN_same | ((with_reducible refine nth_setN_ne ?_ ?_); (first | assumption | omega | (simp; omega))) | ((with_reducible apply nth_new); (first | assumption | (simp only [setN_length, List.length_append, List.length_cons, List.length_nil]; omega))) | with_reducible apply nth_app)); done))))
      | ((with_reducible apply NeedMap.mk); · ((first | assumption | ((repeat (first | assumption | with_reducible apply nth_setN_same | ((with_reducible refine nth_setN_ne ?_ ?_); (first | assumption | omega | (simp; omega))) | ((with_reducible apply nth_new); (first | assumption | (simp only [setN_length, List.length_append, List.length_cons, List.length_nil]; omega))) | with_reducible apply nth_app)); done))))
      | ((with_reducible apply NeedIter.mk); · ((first | assumption | ((repeat (first | assumption | with_reducible apply nth_setN_same | ((with_reducible refine nth_setN_ne ?_ ?_); (first | assumption | omega | (simp; omega))) | ((with_reducible apply nth_new); (first | assumption | (simp only [setN_length, List.length_append, List.length_cons, List.length_nil]; omega))) | with_reducible apply nth_app)); done))))
      | ((with_reducible apply NeedLen.mk); · (first | assumption | rfl))
      | ((with_reducible apply NeedRow.mk); · (first | rfl | (first | assumption | ((repeat (first | assumption | with_reducible apply nth_setN_same | ((with_reducible refine nth_setN_ne ?_ ?_); (first | assumption | omega | (simp; omega))) | ((with_reducible apply nth_new); (first | assumption | (simp only [setN_length, List.length_append, List.length_cons, List.length_nil]; omega))) | with_reducible apply nth_app)); done))))
      | ((with_reducible apply DrawG.mk (List.replicate 60 false)); · (decide +kernel))
      | with_reducible refine NewP.mk (fun id hid => ?_)
      | with_reducible refine NilP.mk (fun e he => ?_)
      | with_reducible exact trivial
      | with_reducible exact And.intro rfl rfl
      | ((with_reducible apply PreP.mk); · (first | with_reducible rfl | assumption | omega | (constructor <;> omega)))
      | with_reducible refine PreP.mk ?_ ?_
      | with_reducible refine BothP.mk ?_ ?_
      | refine Exists.intro _ (PreP.mk (bytesOf_lst _) ?_)
      | refine PreP.mk (lenD_lst _) ?_
      | ((with_reducible apply AncOr.anc); · (decide +kernel))
      | with_reducible refine AncOr.go ?_)
  refine Run.keep [(1, .p (.int .u8 n)), (5, .ptr d 0 0), (6, i64 k), (7, i64 ((0 + 1 : Nat) : Int))] ⟨rfl, rfl, rfl, rfl, trivial⟩ ?_
  refine Run.rounds (fun i T H' => i ≤ n % 20 ∧ T = [(1, .p (.int .u8 n)), (5, .ptr d 0 0), (6, i64 k), (7, i64 ((i + 1 : Nat) : Int))] ∧ ∃ m ids, DiskIs H' d m ids ∧ PowM m k i) (fun i => n % 20 - i) ?_ (x := 0) ⟨by omega, rfl, _, _, hd1, rfl, rfl, rfl, .inl ⟨rfl, by simp⟩⟩
  clear hd0 hg0 hd1 hg1
  rintro i T H' ⟨hi, rfl, m, ids, hd, hm1⟩ ih
  rcases Nat.lt_or_ge i (n % 20) with hin | hin
  · have hx : [D.p (.int .u8 (IntKind.u8.wrap ((i + 1 : Nat) : Int)))] = byteRowD (UInt8.ofNat (i + 1)) := by
      have : i < 20 := by omega
      simp only [byteRowD, List.cons.injEq, D.p.injEq, P.int.injEq, and_true, true_and]
      have h1 : (UInt8.ofNat (i + 1)).toNat = i + 1 := by simp; omega
      rw [h1]
      unfold IntKind.wrap
      simp [IntKind.bits, IntKind.signed]
      omega
    have hap := hm1.app (by omega) (by omega) (UInt8.ofNat (i + 1))
    have hrd := hap.2.read hk1.1
    refine Run.walk hm Try.func5 100 ?_
    repeat' (first
        | ((with_reducible apply Onw.mk); conv => whnf)
        | with_reducible apply Br.tt
        | with_reducible apply Br.ff
        | with_reducible apply Br.no
        | ((with_reducible apply Br.t); · (assumption))
        | ((with_reducible apply Br.f); · (assumption))
        | ((with_reducible apply Br.dt); · (first | assumption | omega))
        | ((with_reducible apply Br.df); · (first | assumption | omega))
        | with_reducible refine Br.dec (fun hc => ?_) (fun hc => ?_)
        | with_reducible refine Br.mk (fun hc => ?_) (fun hc => ?_)
        | ((with_reducible apply NeedRows.mk); · ((first | assumption | ((repeat (first | assumption | with_reducible apply nth_setN_same | ((with_reducible refine nth_setN_ne ?_ ?_); (first | assumption | omega | (simp; omega))) | ((with_reducible apply nth_new); (first | assumption | (simp only [setN_length, List.length_append, List.length_cons, List.length_nil]; omega))) | with_reducible apply nth_app)); done))))
        | ((with_reducible apply NeedMap.mk); · ((first | assumption | ((repeat (first | assumption | with_reducible apply nth_setN_same | ((with_reducible refine nth_setN_ne ?_ ?_); (first | assumption | omega | (simp; omega))) | ((with_reducible apply nth_new); (first | assumption | (simp only [setN_length, List.length_append, List.length_cons, List.length_nil]; omega))) | with_reducible apply nth_app)); done))))
        | ((with_reducible apply NeedIter.mk); · ((first | assumption | ((repeat (first | assumption | with_reducible apply nth_setN_same | ((with_reducible refine nth_setN_ne ?_ ?_); (first | assumption | omega | (simp; omega))) | ((with_reducible apply nth_new); (first | assumption | (simp only [setN_length, List.length_append, List.length_cons, List.length_nil]; omega))) | with_reducible apply nth_app)); done))))
        | ((with_reducible apply NeedLen.mk); · (first | assumption | rfl))
        | ((with_reducible apply NeedRow.mk); · (first | rfl | (first | assumption | ((repeat (first | assumption | with_reducible apply nth_setN_same | ((with_reducible refine nth_setN_ne ?_ ?_); (first | assumption | omega | (simp; omega))) | ((with_reducible apply nth_new); (first | assumption | (simp only [setN_length, List.length_append, List.length_cons, List.length_nil]; omega))) | with_reducible apply nth_app)); done))))
        | ((with_reducible apply DrawG.mk (List.replicate 60 false)); · (decide +kernel))
        | with_reducible refine NewP.mk (fun id hid => ?_)
        | with_reducible refine NilP.mk (fun e he => ?_)
        | with_reducible exact trivial
        | with_reducible exact And.intro rfl rfl
        | ((with_reducible apply PreP.mk); · (first | with_reducible rfl | assumption | omega | (constructor <;> omega)))
        | with_reducible refine PreP.mk ?_ ?_
        | with_reducible refine BothP.mk ?_ ?_
        | refine Exists.intro _ (PreP.mk (bytesOf_lst _) ?_)
        | refine PreP.mk (lenD_lst _) ?_
        | ((with_reducible apply AncOr.anc); · (decide +kernel))
        | with_reducible refine AncOr.go ?_)
    refine NewSlice.bytes [UInt8.ofNat (i + 1)] (congrArg (fun x => [x]) hx) rfl rfl ?_
    repeat' (first
        | ((with_reducible apply Onw.mk); conv => whnf)
        | with_reducible apply Br.tt
        | with_reducible apply Br.ff
        | with_reducible apply Br.no
        | ((with_reducible apply Br.t); · (assumption))
        | ((with_reducible apply Br.f); · (assumption))
        | ((with_reducible apply Br.dt); · (first | assumption | omega))
        | ((with_reducible apply Br.df); · (first | assumption | omega))
        | with_reducible refine Br.dec (fun hc => ?_) (fun hc => ?_)
        | with_reducible refine Br.mk (fun hc => ?_) (fun hc => ?_)
        | ((with_reducible apply NeedRows.mk); · ((first | assumption | ((repeat (first | assumption | with_reducible apply nth_setN_same | ((with_reducible refine nth_setN_ne ?_ ?_); (first | assumption | omega | (simp; omega))) | ((with_reducible apply nth_new); (first | assumption | (simp only [setN_length, List.length_append, List.length_cons, List.length_nil]; omega))) | with_reducible apply nth_app)); done))))
        | ((with_reducible apply NeedMap.mk); · ((first | assumption | ((repeat (first | assumption | with_reducible apply nth_setN_same | ((with_reducible refine nth_setN_ne ?_ ?_); (first | assumption | omega | (simp; omega))) | ((with_reducible apply nth_new); (first | assumption | (simp only [setN_length, List.length_append, List.length_cons, List.length_nil]; omega))) | with_reducible apply nth_app)); done))))
        | ((with_reducible apply NeedIter.mk); · ((first | assumption | ((repeat (first | assumption | with_reducible apply nth_setN_same | ((with_reducible refine nth_setN_ne ?_ ?_); (first | assumption | omega | (simp; omega))) | ((with_reducible apply nth_new); (first | assumption | (simp only [setN_length, List.length_append, List.length_cons, List.length_nil]; omega))) | with_reducible apply nth_app)); done))))
        | ((with_reducible apply NeedLen.mk); · (first | assumption | rfl))
        | ((with_reducible apply NeedRow.mk); · (first | rfl | (first | assumption | ((repeat (first | assumption | with_reducible apply nth_setN_same | ((with_reducible refine nth_setN_ne ?_ ?_); (first | assumption | omega | (simp; omega))) | ((with_reducible apply nth_new); (first | assumption | (simp only [setN_length, List.length_append, List.length_cons, List.length_nil]; omega))) | with_reducible apply nth_app)); done))))
        | ((with_reducible apply DrawG.mk (List.replicate 60 false)); · (decide +kernel))
        | with_reducible refine NewP.mk (fun id hid => ?_)
        | with_reducible refine NilP.mk (fun e he => ?_)
        | with_reducible exact trivial
        | with_reducible exact And.intro rfl rfl
        | ((with_reducible apply PreP.mk); · (first | with_reducible rfl | assumption | omega | (constructor <;> omega)))
        | with_reducible refine PreP.mk ?_ ?_
        | with_reducible refine BothP.mk ?_ ?_
        | refine Exists.intro _ (PreP.mk (bytesOf_lst _) ?_)
        | refine PreP.mk (lenD_lst _) ?_
        | ((with_reducible apply AncOr.anc); · (decide +kernel))
        | with_reducible refine AncOr.go ?_)
    refine CallOK.go (a16 hd (hm1.ok (by omega) (by omega)) [102] [UInt8.ofNat (i + 1)] (by decide) (by simp)) (fun r H1 hr => ?_)
    obtain ⟨rfl, ids1, hd1, hg1⟩ := hr
    rw [hap.1]
    repeat' (first
        | ((with_reducible apply Onw.mk); conv => whnf)
        | with_reducible apply Br.tt
        | with_reducible apply Br.ff
        | with_reducible apply Br.no
        | ((with_reducible apply Br.t); · (assumption))
        | ((with_reducible apply Br.f); · (assumption))
        | ((with_reducible apply Br.dt); · (first | assumption | omega))
        | ((with_reducible apply Br.df); · (first | assumption | omega))
        | with_reducible refine Br.dec (fun hc => ?_) (fun hc => ?_)
        | with_reducible refine Br.mk (fun hc => ?_) (fun hc => ?_)
        | ((with_reducible apply NeedRows.mk); · ((first | assumption | ((repeat (first | assumption | with_reducible apply nth_setN_same | ((with_reducible refine nth_setN_ne ?_ ?_); (first | assumption | omega | (simp; omega))) | ((with_reducible apply nth_new); (first | assumption | (simp only [setN_length, List.length_append, List.length_cons, List.length_nil]; omega))) | with_reducible apply nth_app)); done))))
        | ((with_reducible apply NeedMap.mk); · ((first | assumption | ((repeat (first | assumption | with_reducible apply nth_setN_same | ((with_reducible refine nth_setN_ne ?_ ?_); (first | assumption | omega | (simp; omega))) | ((with_reducible apply nth_new); (first | assumption | (simp only [setN_length, List.length_append, List.length_cons, List.length_nil]; omega))) | with_reducible apply nth_app)); done))))
        | ((with_reducible apply NeedIter.mk); · ((first | assumption | ((repeat (first | assumption | with_reducible apply nth_setN_same | ((with_reducible refine nth_setN_ne ?_ ?_); (first | assumption | omega | (simp; omega))) | ((with_reducible apply nth_new); (first | assumption | (simp only [setN_length, List.length_append, List.length_cons, List.length_nil]; omega))) | with_reducible apply nth_app)); done))))
        | ((with_reducible apply NeedLen.mk); · (first | assumption | rfl))
        | ((with_reducible apply NeedRow.mk); · (first | rfl | (first | assumption | ((repeat (first | assumption | with_reducible apply nth_setN_same | ((with_reducible refine nth_setN_ne ?_ ?_); (first | assumption | omega | (simp; omega))) | ((with_reducible apply nth_new); (first | assumption | (simp only [setN_length, List.length_append, List.length_cons, List.length_nil]; omega))) | with_reducible apply nth_app)); done))))
        | ((with_reducible apply DrawG.mk (List.replicate 60 false)); · (decide +kernel))
        | with_reducible refine NewP.mk (fun id hid => ?_)
        | with_reducible refine NilP.mk (fun e he => ?_)
        | with_reducible exact trivial
        | with_reducible exact And.intro rfl rfl
        | ((with_reducible apply PreP.mk); · (first | with_reducible rfl | assumption | omega | (constructor <;> omega)))
        | with_reducible refine PreP.mk ?_ ?_
        | with_reducible refine BothP.mk ?_ ?_
        | refine Exists.intro _ (PreP.mk (bytesOf_lst _) ?_)
        | refine PreP.mk (lenD_lst _) ?_
        | ((with_reducible apply AncOr.anc); · (decide +kernel))
        | with_reducible refine AncOr.go ?_)
    refine CallOK.go (a19 hd1 [102]) (fun r H2 hr => ?_)
    obtain ⟨rfl, rfl⟩ := hr
    rcases Nat.lt_or_ge (i + 1) k with hlt | hge
    · obtain ⟨b, hr1, hr2⟩ := hrd.2 hlt (by omega)
      rw [hr1, if_neg (by omega)]
      repeat' (first
          | ((with_reducible apply Onw.mk); conv => whnf)
          | with_reducible apply Br.tt
          | with_reducible apply Br.ff
          | with_reducible apply Br.no
          | ((with_reducible apply Br.t); · (assumption))
          | ((with_reducible apply Br.f); · (assumption))
          | ((with_reducible apply Br.dt); · (first | assumption | omega))
          | ((with_reducible apply Br.df); · (first | assumption | omega))
          | with_reducible refine Br.dec (fun hc => ?_) (fun hc => ?_)
          | with_reducible refine Br.mk (fun hc => ?_) (fun hc => ?_)
          | ((with_reducible apply NeedRows.mk); · ((first | assumption | ((repeat (first | assumption | with_reducible apply nth_setN_same | ((with_reducible refine nth_setN_ne ?_ ?_); (first | assumption | omega | (simp; omega))) | ((with_reducible apply nth_new); (first | assumption | (simp only [setN_length, List.length_append, List.length_cons, List.length_nil]; omega))) | with_reducible apply nth_app)); done))))
          | ((with_reducible apply NeedMap.mk); · ((first | assumption | ((repeat (first | assumption | with_reducible apply nth_setN_same | ((with_reducible refine nth_setN_ne ?_ ?_); (first | assumption | omega | (simp; omega))) | ((with_reducible apply nth_new); (first | assumption | (simp only [setN_length, List.length_append, List.length_cons, List.length_nil]; omega))) | with_reducible apply nth_app)); done))))
          | ((with_reducible apply NeedIter.mk); · ((first | assumption | ((repeat (first | assumption | with_reducible apply nth_setN_same | ((with_reducible refine nth_setN_ne ?_ ?_); (first | assumption | omega | (simp; omega))) | ((with_reducible apply nth_new); (first | assumption | (simp only [setN_length, List.length_append, List.length_cons, List.length_nil]; omega))) | with_reducible apply nth_app)); done))))
          | ((with_reducible apply NeedLen.mk); · (first | assumption | rfl))
          | ((with_reducible apply NeedRow.mk); · (first | rfl | (first | assumption | ((repeat (first | assumption | with_reducible apply nth_setN_same | ((with_reducible refine nth_setN_ne ?_ ?_); (first | assumption | omega | (simp; omega))) | ((with_reducible apply nth_new); (first | assumption | (simp only [setN_length, List.length_append, List.length_cons, List.length_nil]; omega))) | with_reducible apply nth_app)); done))))
          | ((with_reducible apply DrawG.mk (List.replicate 60 false)); · (decide +kernel))
          | with_reducible refine NewP.mk (fun id hid => ?_)
          | with_reducible refine NilP.mk (fun e he => ?_)
          | with_reducible exact trivial
          | with_reducible exact And.intro rfl rfl
          | ((with_reducible apply PreP.mk); · (first | with_reducible rfl | assumption | omega | (constructor <;> omega)))
          | with_reducible refine PreP.mk ?_ ?_
          | with_reducible refine BothP.mk ?_ ?_
          | refine Exists.intro _ (PreP.mk (bytesOf_lst _) ?_)
          | refine PreP.mk (lenD_lst _) ?_
          | ((with_reducible apply AncOr.anc); · (decide +kernel))
          | with_reducible refine AncOr.go ?_)
      refine CallOK.go (a23 hd1 (hap.2.ok (by omega) (by omega))) (fun r H2 hr => ?_)
      obtain ⟨rfl, rfl⟩ := hr
      rw [hr2]
      repeat' (first
          | ((with_reducible apply Onw.mk); conv => whnf)
          | with_reducible apply Br.tt
          | with_reducible apply Br.ff
          | with_reducible apply Br.no
          | ((with_reducible apply Br.t); · (assumption))
          | ((with_reducible apply Br.f); · (assumption))
          | ((with_reducible apply Br.dt); · (first | assumption | omega))
          | ((with_reducible apply Br.df); · (first | assumption | omega))
          | with_reducible refine Br.dec (fun hc => ?_) (fun hc => ?_)
          | with_reducible refine Br.mk (fun hc => ?_) (fun hc => ?_)
          | ((with_reducible apply NeedRows.mk); · ((first | assumption | ((repeat (first | assumption | with_reducible apply nth_setN_same | ((with_reducible refine nth_setN_ne ?_ ?_); (first | assumption | omega | (simp; omega))) | ((with_reducible apply nth_new); (first | assumption | (simp only [setN_length, List.length_append, List.length_cons, List.length_nil]; omega))) | with_reducible apply nth_app)); done))))
          | ((with_reducible apply NeedMap.mk); · ((first | assumption | ((repeat (first | assumption | with_reducible apply nth_setN_same | ((with_reducible refine nth_setN_ne ?_ ?_); (first | assumption | omega | (simp; omega))) | ((with_reducible apply nth_new); (first | assumption | (simp only [setN_length, List.length_append, List.length_cons, List.length_nil]; omega))) | with_reducible apply nth_app)); done))))
          | ((with_reducible apply NeedIter.mk); · ((first | assumption | ((repeat (first | assumption | with_reducible apply nth_setN_same | ((with_reducible refine nth_setN_ne ?_ ?_); (first | assumption | omega | (simp; omega))) | ((with_reducible apply nth_new); (first | assumption | (simp only [setN_length, List.length_append, List.length_cons, List.length_nil]; omega))) | with_reducible apply nth_app)); done))))
          | ((with_reducible apply NeedLen.mk); · (first | assumption | rfl))
          | ((with_reducible apply NeedRow.mk); · (first | rfl | (first | assumption | ((repeat (first | assumption | with_reducible apply nth_setN_same | ((with_reducible refine nth_setN_ne ?_ ?_); (first | assumption | omega | (simp; omega))) | ((with_reducible apply nth_new); (first | assumption | (simp only [setN_length, List.length_append, List.length_cons, List.length_nil]; omega))) | with_reducible apply nth_app)); done))))
          | ((with_reducible apply DrawG.mk (List.replicate 60 false)); · (decide +kernel))
          | with_reducible refine NewP.mk (fun id hid => ?_)
          | with_reducible refine NilP.mk (fun e he => ?_)
          | with_reducible exact trivial
          | with_reducible exact And.intro rfl rfl
          | ((with_reducible apply PreP.mk); · (first | with_reducible rfl | assumption | omega | (constructor <;> omega)))
          | with_reducible refine PreP.mk ?_ ?_
          | with_reducible refine BothP.mk ?_ ?_
          | refine Exists.intro _ (PreP.mk (bytesOf_lst _) ?_)
          | refine PreP.mk (lenD_lst _) ?_
          | ((with_reducible apply AncOr.anc); · (decide +kernel))
          | with_reducible refine AncOr.go ?_)
      · refine Run.keep _ ?_ (ih (i + 1) _ _ (by omega) ⟨by omega, rfl, _, _, hd1, hap.2⟩)
        exact ⟨rfl, rfl, rfl, slot64 (by omega) (by omega) (by omega), trivial⟩
      · exfalso
        have e : decide ((k : Int) ≤ ((i + 1 : Nat) : Int)) = false := decide_eq_false (by omega)
        rw [e] at hc
        exact absurd hc (by decide)
    · rw [(hrd.1 hge).1, if_pos hge]
      repeat' (first
          | ((with_reducible apply Onw.mk); conv => whnf)
          | with_reducible apply Br.tt
          | with_reducible apply Br.ff
          | with_reducible apply Br.no
          | ((with_reducible apply Br.t); · (assumption))
          | ((with_reducible apply Br.f); · (assumption))
          | ((with_reducible apply Br.dt); · (first | assumption | omega))
          | ((with_reducible apply Br.df); · (first | assumption | omega))
          | with_reducible refine Br.dec (fun hc => ?_) (fun hc => ?_)
          | with_reducible refine Br.mk (fun hc => ?_) (fun hc => ?_)
          | ((with_reducible apply NeedRows.mk); · ((first | assumption | ((repeat (first | assumption | with_reducible apply nth_setN_same | ((with_reducible refine nth_setN_ne ?_ ?_); (first | assumption | omega | (simp; omega))) | ((with_reducible apply nth_new); (first | assumption | (simp only [setN_length, List.length_append, List.length_cons, List.length_nil]; omega))) | with_reducible apply nth_app)); done))))
          | ((with_reducible apply NeedMap.mk); · ((first | assumption | ((repeat (first | assumption | with_reducible apply nth_setN_same | ((with_reducible refine nth_setN_ne ?_ ?_); (first | assumption | omega | (simp; omega))) | ((with_reducible apply nth_new); (first | assumption | (simp only [setN_length, List.length_append, List.length_cons, List.length_nil]; omega))) | with_reducible apply nth_app)); done))))
          | ((with_reducible apply NeedIter.mk); · ((first | assumption | ((repeat (first | assumption | with_reducible apply nth_setN_same | ((with_reducible refine nth_setN_ne ?_ ?_); (first | assumption | omega | (simp; omega))) | ((with_reducible apply nth_new); (first | assumption | (simp only [setN_length, List.length_append, List.length_cons, List.length_nil]; omega))) | with_reducible apply nth_app)); done))))
          | ((with_reducible apply NeedLen.mk); · (first | assumption | rfl))
          | ((with_reducible apply NeedRow.mk); · (first | rfl | (first | assumption | ((repeat (first | assumption | with_reducible apply nth_setN_same | ((with_reducible refine nth_setN_ne ?_ ?_); (first | assumption | omega | (simp; omega))) | ((with_reducible apply nth_new); (first | assumption | (simp only [setN_length, List.length_append, List.length_cons, List.length_nil]; omega))) | with_reducible apply nth_app)); done))))
          | ((with_reducible apply DrawG.mk (List.replicate 60 false)); · (decide +kernel))
          | with_reducible refine NewP.mk (fun id hid => ?_)
          | with_reducible refine NilP.mk (fun e he => ?_)
          | with_reducible exact trivial
          | with_reducible exact And.intro rfl rfl
          | ((with_reducible apply PreP.mk); · (first | with_reducible rfl | assumption | omega | (constructor <;> omega)))
          | with_reducible refine PreP.mk ?_ ?_
          | with_reducible refine BothP.mk ?_ ?_
          | refine Exists.intro _ (PreP.mk (bytesOf_lst _) ?_)
          | refine PreP.mk (lenD_lst _) ?_
          | ((with_reducible apply AncOr.anc); · (decide +kernel))
          | with_reducible refine AncOr.go ?_)
      refine CallOK.go (a23 hd1 (hap.2.ok (by omega) (by omega))) (fun r H2 hr => ?_)
      obtain ⟨rfl, rfl⟩ := hr
      rw [(hrd.1 hge).2]
      repeat' (first
          | ((with_reducible apply Onw.mk); conv => whnf)
          | with_reducible apply Br.tt
          | with_reducible apply Br.ff
          | with_reducible apply Br.no
          | ((with_reducible apply Br.t); · (assumption))
          | ((with_reducible apply Br.f); · (assumption))
          | ((with_reducible apply Br.dt); · (first | assumption | omega))
          | ((with_reducible apply Br.df); · (first | assumption | omega))
          | with_reducible refine Br.dec (fun hc => ?_) (fun hc => ?_)
          | with_reducible refine Br.mk (fun hc => ?_) (fun hc => ?_)
          | ((with_reducible apply NeedRows.mk); · ((first | assumption | ((repeat (first | assumption | with_reducible apply nth_setN_same | ((with_reducible refine nth_setN_ne ?_ ?_); (first | assumption | omega | (simp; omega))) | ((with_reducible apply nth_new); (first | assumption | (simp only [setN_length, List.length_append, List.length_cons, List.length_nil]; omega))) | with_reducible apply nth_app)); done))))
          | ((with_reducible apply NeedMap.mk); · ((first | assumption | ((repeat (first | assumption | with_reducible apply nth_setN_same | ((with_reducible refine nth_setN_ne ?_ ?_); (first | assumption | omega | (simp; omega))) | ((with_reducible apply nth_new); (first | assumption | (simp only [setN_length, List.length_append, List.length_cons, List.length_nil]; omega))) | with_reducible apply nth_app)); done))))
          | ((with_reducible apply NeedIter.mk); · ((first | assumption | ((repeat (first | assumption | with_reducible apply nth_setN_same | ((with_reducible refine nth_setN_ne ?_ ?_); (first | assumption | omega | (simp; omega))) | ((with_reducible apply nth_new); (first | assumption | (simp only [setN_length, List.length_append, List.length_cons, List.length_nil]; omega))) | with_reducible apply nth_app)); done))))
          | ((with_reducible apply NeedLen.mk); · (first | assumption | rfl))
          | ((with_reducible apply NeedRow.mk); · (first | rfl | (first | assumption | ((repeat (first | assumption | with_reducible apply nth_setN_same | ((with_reducible refine nth_setN_ne ?_ ?_); (first | assumption | omega | (simp; omega))) | ((with_reducible apply nth_new); (first | assumption | (simp only [setN_length, List.length_append, List.length_cons, List.length_nil]; omega))) | with_reducible apply nth_app)); done))))
          | ((with_reducible apply DrawG.mk (List.replicate 60 false)); · (decide +kernel))
          | with_reducible refine NewP.mk (fun id hid => ?_)
          | with_reducible refine NilP.mk (fun e he => ?_)
          | with_reducible exact trivial
          | with_reducible exact And.intro rfl rfl
          | ((with_reducible apply PreP.mk); · (first | with_reducible rfl | assumption | omega | (constructor <;> omega)))
          | with_reducible refine PreP.mk ?_ ?_
          | with_reducible refine BothP.mk ?_ ?_
          | refine Exists.intro _ (PreP.mk (bytesOf_lst _) ?_)
          | refine PreP.mk (lenD_lst _) ?_
          | ((with_reducible apply AncOr.anc); · (decide +kernel))
          | with_reducible refine AncOr.go ?_)
      · refine Run.keep _ ?_ (ih (i + 1) _ _ (by omega) ⟨by omega, rfl, _, _, hd1, hap.2⟩)
        exact ⟨rfl, rfl, rfl, slot64 (by omega) (by omega) (by omega), trivial⟩
      · exfalso
        have e : decide ((k : Int) ≤ ((i + 1 : Nat) : Int)) = true := decide_eq_true (by omega)
        rw [e] at hc
        exact absurd hc (by decide)
  · obtain rfl : i = n % 20 := by omega
    refine Run.walk hm Try.func5 100 ?_
    repeat' (first
        | ((with_reducible apply Onw.mk); conv => whnf)
        | with_reducible apply Br.tt
        | with_reducible apply Br.ff
        | with_reducible apply Br.no
        | ((with_reducible apply Br.t); · (assumption))
        | ((with_reducible apply Br.f); · (assumption))
        | ((with_reducible apply Br.dt); · (first | assumption | omega))
        | ((with_reducible apply Br.df); · (first | assumption | omega))
        | with_reducible refine Br.dec (fun hc => ?_) (fun hc => ?_)
        | with_reducible refine Br.mk (fun hc => ?_) (fun hc => ?_)
        | ((with_reducible apply NeedRows.mk); · ((first | assumption | ((repeat (first | assumption | with_reducible apply nth_setN_same | ((with_reducible refine nth_setN_ne ?_ ?_); (first | assumption | omega | (simp; omega))) | ((with_reducible apply nth_new); (first | assumption | (simp only [setN_length, List.length_append, List.length_cons, List.length_nil]; omega))) | with_reducible apply nth_app)); done))))
        | ((with_reducible apply NeedMap.mk); · ((first | assumption | ((repeat (first | assumption | with_reducible apply nth_setN_same | ((with_reducible refine nth_setN_ne ?_ ?_); (first | assumption | omega | (simp; omega))) | ((with_reducible apply nth_new); (first | assumption | (simp only [setN_length, List.length_append, List.length_cons, List.length_nil]; omega))) | with_reducible apply nth_app)); done))))
        | ((with_reducible apply NeedIter.mk); · ((first | assumption | ((repeat (first | assumption | with_reducible apply nth_setN_same | ((with_reducible refine nth_setN_ne ?_ ?_); (first | assumption | omega | (simp; omega))) | ((with_reducible apply nth_new); (first | assumption | (simp only [setN_length, List.length_append, List.length_cons, List.length_nil]; omega))) | with_reducible apply nth_app)); done))))
        | ((with_reducible apply NeedLen.mk); · (first | assumption | rfl))
        | ((with_reducible apply NeedRow.mk); · (first | rfl | (first | assumption | ((repeat (first | assumption | with_reducible apply nth_setN_same | ((with_reducible refine nth_setN_ne ?_ ?_); (first | assumption | omega | (simp; omega))) | ((with_reducible apply nth_new); (first | assumption | (simp only [setN_length, List.length_append, List.length_cons, List.length_nil]; omega))) | with_reducible apply nth_app)); done))))
        | ((with_reducible apply DrawG.mk (List.replicate 60 false)); · (decide +kernel))
        | with_reducible refine NewP.mk (fun id hid => ?_)
        | with_reducible refine NilP.mk (fun e he => ?_)
        | with_reducible exact trivial
        | with_reducible exact And.intro rfl rfl
        | ((with_reducible apply PreP.mk); · (first | with_reducible rfl | assumption | omega | (constructor <;> omega)))
        | with_reducible refine PreP.mk ?_ ?_
        | with_reducible refine BothP.mk ?_ ?_
        | refine Exists.intro _ (PreP.mk (bytesOf_lst _) ?_)
        | refine PreP.mk (lenD_lst _) ?_
        | ((with_reducible apply AncOr.anc); · (decide +kernel))
        | with_reducible refine AncOr.go ?_)
    refine NewSlice.bytes [255] rfl rfl rfl ?_
    repeat' (first
        | ((with_reducible apply Onw.mk); conv => whnf)
        | with_reducible apply Br.tt
        | with_reducible apply Br.ff
        | with_reducible apply Br.no
        | ((with_reducible apply Br.t); · (assumption))
        | ((with_reducible apply Br.f); · (assumption))
        | ((with_reducible apply Br.dt); · (first | assumption | omega))
        | ((with_reducible apply Br.df); · (first | assumption | omega))
        | with_reducible refine Br.dec (fun hc => ?_) (fun hc => ?_)
        | with_reducible refine Br.mk (fun hc => ?_) (fun hc => ?_)
        | ((with_reducible apply NeedRows.mk); · ((first | assumption | ((repeat (first | assumption | with_reducible apply nth_setN_same | ((with_reducible refine nth_setN_ne ?_ ?_); (first | assumption | omega | (simp; omega))) | ((with_reducible apply nth_new); (first | assumption | (simp only [setN_length, List.length_append, List.length_cons, List.length_nil]; omega))) | with_reducible apply nth_app)); done))))
        | ((with_reducible apply NeedMap.mk); · ((first | assumption | ((repeat (first | assumption | with_reducible apply nth_setN_same | ((with_reducible refine nth_setN_ne ?_ ?_); (first | assumption | omega | (simp; omega))) | ((with_reducible apply nth_new); (first | assumption | (simp only [setN_length, List.length_append, List.length_cons, List.length_nil]; omega))) | with_reducible apply nth_app)); done))))
        | ((with_reducible apply NeedIter.mk); · ((first | assumption | ((repeat (first | assumption | with_reducible apply nth_setN_same | ((with_reducible refine nth_setN_ne ?_ ?_); (first | assumption | omega | (simp; omega))) | ((with_reducible apply nth_new); (first | assumption | (simp only [setN_length, List.length_append, List.length_cons, List.length_nil]; omega))) | with_reducible apply nth_app)); done))))
        | ((with_reducible apply NeedLen.mk); · (first | assumption | rfl))
        | ((with_reducible apply NeedRow.mk); · (first | rfl | (first | assumption | ((repeat (first | assumption | with_reducible apply nth_setN_same | ((with_reducible refine nth_setN_ne ?_ ?_); (first | assumption | omega | (simp; omega))) | ((with_reducible apply nth_new); (first | assumption | (simp only [setN_length, List.length_append, List.length_cons, List.length_nil]; omega))) | with_reducible apply nth_app)); done))))
        | ((with_reducible apply DrawG.mk (List.replicate 60 false)); · (decide +kernel))
        | with_reducible refine NewP.mk (fun id hid => ?_)
        | with_reducible refine NilP.mk (fun e he => ?_)
        | with_reducible exact trivial
        | with_reducible exact And.intro rfl rfl
        | ((with_reducible apply PreP.mk); · (first | with_reducible rfl | assumption | omega | (constructor <;> omega)))
        | with_reducible refine PreP.mk ?_ ?_
        | with_reducible refine BothP.mk ?_ ?_
        | refine Exists.intro _ (PreP.mk (bytesOf_lst _) ?_)
        | refine PreP.mk (lenD_lst _) ?_
        | ((with_reducible apply AncOr.anc); · (decide +kernel))
        | with_reducible refine AncOr.go ?_)
    have hen := hm1.end_ (by omega) (by omega)
    refine CallOK.go (a18 hd (hm1.ok (by omega) (by omega)) [255] (by decide)) (fun r H1 hr => ?_)
    obtain ⟨rfl, ids1, hd1, hg1⟩ := hr
    repeat' (first
        | ((with_reducible apply Onw.mk); conv => whnf)
        | with_reducible apply Br.tt
        | with_reducible apply Br.ff
        | with_reducible apply Br.no
        | ((with_reducible apply Br.t); · (assumption))
        | ((with_reducible apply Br.f); · (assumption))
        | ((with_reducible apply Br.dt); · (first | assumption | omega))
        | ((with_reducible apply Br.df); · (first | assumption | omega))
        | with_reducible refine Br.dec (fun hc => ?_) (fun hc => ?_)
        | with_reducible refine Br.mk (fun hc => ?_) (fun hc => ?_)
        | ((with_reducible apply NeedRows.mk); · ((first | assumption | ((repeat (first | assumption | with_reducible apply nth_setN_same | ((with_reducible refine nth_setN_ne ?_ ?_); (first | assumption | omega | (simp; omega))) | ((with_reducible apply nth_new); (first | assumption | (simp only [setN_length, List.length_append, List.length_cons, List.length_nil]; omega))) | with_reducible apply nth_app)); done))))
        | ((with_reducible apply NeedMap.mk); · ((first | assumption | ((repeat (first | assumption | with_reducible apply nth_setN_same | ((with_reducible refine nth_setN_ne ?_ ?_); (first | assumption | omega | (simp; omega))) | ((with_reducible apply nth_new); (first | assumption | (simp only [setN_length, List.length_append, List.length_cons, List.length_nil]; omega))) | with_reducible apply nth_app)); done))))
        | ((with_reducible apply NeedIter.mk); · ((first | assumption | ((repeat (first | assumption | with_reducible apply nth_setN_same | ((with_reducible refine nth_setN_ne ?_ ?_); (first | assumption | omega | (simp; omega))) | ((with_reducible apply nth_new); (first | assumption | (simp only [setN_length, List.length_append, List.length_cons, List.length_nil]; omega))) | with_reducible apply nth_app)); done))))
        | ((with_reducible apply NeedLen.mk); · (first | assumption | rfl))
        | ((with_reducible apply NeedRow.mk); · (first | rfl | (first | assumption | ((repeat (first | assumption | with_reducible apply nth_setN_same | ((with_reducible refine nth_setN_ne ?_ ?_); (first | assumption | omega | (simp; omega))) | ((with_reducible apply nth_new); (first | assumption | (simp only [setN_length, List.length_append, List.length_cons, List.length_nil]; omega))) | with_reducible apply nth_app)); done))))
        | ((with_reducible apply DrawG.mk (List.replicate 60 false)); · (decide +kernel))
        | with_reducible refine NewP.mk (fun id hid => ?_)
        | with_reducible refine NilP.mk (fun e he => ?_)
        | with_reducible exact trivial
        | with_reducible exact And.intro rfl rfl
        | ((with_reducible apply PreP.mk); · (first | with_reducible rfl | assumption | omega | (constructor <;> omega)))
        | with_reducible refine PreP.mk ?_ ?_
        | with_reducible refine BothP.mk ?_ ?_
        | refine Exists.intro _ (PreP.mk (bytesOf_lst _) ?_)
        | refine PreP.mk (lenD_lst _) ?_
        | ((with_reducible apply AncOr.anc); · (decide +kernel))
        | with_reducible refine AncOr.go ?_)
    refine CallOK.go (a20 hd1 hen.2.1) (fun r H2 hr => ?_)
    obtain ⟨rfl, rfl⟩ := hr
    rw [hen.1]
    repeat' (first
        | ((with_reducible apply Onw.mk); conv => whnf)
        | with_reducible apply Br.tt
        | with_reducible apply Br.ff
        | with_reducible apply Br.no
        | ((with_reducible apply Br.t); · (assumption))
        | ((with_reducible apply Br.f); · (assumption))
        | ((with_reducible apply Br.dt); · (first | assumption | omega))
        | ((with_reducible apply Br.df); · (first | assumption | omega))
        | with_reducible refine Br.dec (fun hc => ?_) (fun hc => ?_)
        | with_reducible refine Br.mk (fun hc => ?_) (fun hc => ?_)
        | ((with_reducible apply NeedRows.mk); · ((first | assumption | ((repeat (first | assumption | with_reducible apply nth_setN_same | ((with_reducible refine nth_setN_ne ?_ ?_); (first | assumption | omega | (simp; omega))) | ((with_reducible apply nth_new); (first | assumption | (simp only [setN_length, List.length_append, List.length_cons, List.length_nil]; omega))) | with_reducible apply nth_app)); done))))
        | ((with_reducible apply NeedMap.mk); · ((first | assumption | ((repeat (first | assumption | with_reducible apply nth_setN_same | ((with_reducible refine nth_setN_ne ?_ ?_); (first | assumption | omega | (simp; omega))) | ((with_reducible apply nth_new); (first | assumption | (simp only [setN_length, List.length_append, List.length_cons, List.length_nil]; omega))) | with_reducible apply nth_app)); done))))
        | ((with_reducible apply NeedIter.mk); · ((first | assumption | ((repeat (first | assumption | with_reducible apply nth_setN_same | ((with_reducible refine nth_setN_ne ?_ ?_); (first | assumption | omega | (simp; omega))) | ((with_reducible apply nth_new); (first | assumption | (simp only [setN_length, List.length_append, List.length_cons, List.length_nil]; omega))) | with_reducible apply nth_app)); done))))
        | ((with_reducible apply NeedLen.mk); · (first | assumption | rfl))
        | ((with_reducible apply NeedRow.mk); · (first | rfl | (first | assumption | ((repeat (first | assumption | with_reducible apply nth_setN_same | ((with_reducible refine nth_setN_ne ?_ ?_); (first | assumption | omega | (simp; omega))) | ((with_reducible apply nth_new); (first | assumption | (simp only [setN_length, List.length_append, List.length_cons, List.length_nil]; omega))) | with_reducible apply nth_app)); done))))
        | ((with_reducible apply DrawG.mk (List.replicate 60 false)); · (decide +kernel))
        | with_reducible refine NewP.mk (fun id hid => ?_)
        | with_reducible refine NilP.mk (fun e he => ?_)
        | with_reducible exact trivial
        | with_reducible exact And.intro rfl rfl
        | ((with_reducible apply PreP.mk); · (first | with_reducible rfl | assumption | omega | (constructor <;> omega)))
        | with_reducible refine PreP.mk ?_ ?_
        | with_reducible refine BothP.mk ?_ ?_
        | refine Exists.intro _ (PreP.mk (bytesOf_lst _) ?_)
        | refine PreP.mk (lenD_lst _) ?_
        | ((with_reducible apply AncOr.anc); · (decide +kernel))
        | with_reducible refine AncOr.go ?_)
    · refine CallOK.go (a16nil hd1 hen.2.1 [103] (by decide)) (fun r H3 hr => ?_)
      obtain ⟨rfl, ids3, hd3, hg3⟩ := hr
      rw [hen.2.2.1]
      repeat' (first
          | ((with_reducible apply Onw.mk); conv => whnf)
          | with_reducible apply Br.tt
          | with_reducible apply Br.ff
          | with_reducible apply Br.no
          | ((with_reducible apply Br.t); · (assumption))
          | ((with_reducible apply Br.f); · (assumption))
          | ((with_reducible apply Br.dt); · (first | assumption | omega))
          | ((with_reducible apply Br.df); · (first | assumption | omega))
          | with_reducible refine Br.dec (fun hc => ?_) (fun hc => ?_)
          | with_reducible refine Br.mk (fun hc => ?_) (fun hc => ?_)
          | ((with_reducible apply NeedRows.mk); · ((first | assumption | ((repeat (first | assumption | with_reducible apply nth_setN_same | ((with_reducible refine nth_setN_ne ?_ ?_); (first | assumption | omega | (simp; omega))) | ((with_reducible apply nth_new); (first | assumption | (simp only [setN_length, List.length_append, List.length_cons, List.length_nil]; omega))) | with_reducible apply nth_app)); done))))
          | ((with_reducible apply NeedMap.mk); · ((first | assumption | ((repeat (first | assumption | with_reducible apply nth_setN_same | ((with_reducible refine nth_setN_ne ?_ ?_); (first | assumption | omega | (simp; omega))) | ((with_reducible apply nth_new); (first | assumption | (simp only [setN_length, List.length_append, List.length_cons, List.length_nil]; omega))) | with_reducible apply nth_app)); done))))
          | ((with_reducible apply NeedIter.mk); · ((first | assumption | ((repeat (first | assumption | with_reducible apply nth_setN_same | ((with_reducible refine nth_setN_ne ?_ ?_); (first | assumption | omega | (simp; omega))) | ((with_reducible apply nth_new); (first | assumption | (simp only [setN_length, List.length_append, List.length_cons, List.length_nil]; omega))) | with_reducible apply nth_app)); done))))
          | ((with_reducible apply NeedLen.mk); · (first | assumption | rfl))
          | ((with_reducible apply NeedRow.mk); · (first | rfl | (first | assumption | ((repeat (first | assumption | with_reducible apply nth_setN_same | ((with_reducible refine nth_setN_ne ?_ ?_); (first | assumption | omega | (simp; omega))) | ((with_reducible apply nth_new); (first | assumption | (simp only [setN_length, List.length_append, List.length_cons, List.length_nil]; omega))) | with_reducible apply nth_app)); done))))
          | ((with_reducible apply DrawG.mk (List.replicate 60 false)); · (decide +kernel))
          | with_reducible refine NewP.mk (fun id hid => ?_)
          | with_reducible refine NilP.mk (fun e he => ?_)
          | with_reducible exact trivial
          | with_reducible exact And.intro rfl rfl
          | ((with_reducible apply PreP.mk); · (first | with_reducible rfl | assumption | omega | (constructor <;> omega)))
          | with_reducible refine PreP.mk ?_ ?_
          | with_reducible refine BothP.mk ?_ ?_
          | refine Exists.intro _ (PreP.mk (bytesOf_lst _) ?_)
          | refine PreP.mk (lenD_lst _) ?_
          | ((with_reducible apply AncOr.anc); · (decide +kernel))
          | with_reducible refine AncOr.go ?_)
      refine CallOK.go (a24 hd3) (fun r H4 hr => ?_)
      obtain ⟨rfl, rfl⟩ := hr
      rw [hen.2.2.2]
      repeat' (first
          | ((with_reducible apply Onw.mk); conv => whnf)
          | with_reducible apply Br.tt
          | with_reducible apply Br.ff
          | with_reducible apply Br.no
          | ((with_reducible apply Br.t); · (assumption))
          | ((with_reducible apply Br.f); · (assumption))
          | ((with_reducible apply Br.dt); · (first | assumption | omega))
          | ((with_reducible apply Br.df); · (first | assumption | omega))
          | with_reducible refine Br.dec (fun hc => ?_) (fun hc => ?_)
          | with_reducible refine Br.mk (fun hc => ?_) (fun hc => ?_)
          | ((with_reducible apply NeedRows.mk); · ((first | assumption | ((repeat (first | assumption | with_reducible apply nth_setN_same | ((with_reducible refine nth_setN_ne ?_ ?_); (first | assumption | omega | (simp; omega))) | ((with_reducible apply nth_new); (first | assumption | (simp only [setN_length, List.length_append, List.length_cons, List.length_nil]; omega))) | with_reducible apply nth_app)); done))))
          | ((with_reducible apply NeedMap.mk); · ((first | assumption | ((repeat (first | assumption | with_reducible apply nth_setN_same | ((with_reducible refine nth_setN_ne ?_ ?_); (first | assumption | omega | (simp; omega))) | ((with_reducible apply nth_new); (first | assumption | (simp only [setN_length, List.length_append, List.length_cons, List.length_nil]; omega))) | with_reducible apply nth_app)); done))))
          | ((with_reducible apply NeedIter.mk); · ((first | assumption | ((repeat (first | assumption | with_reducible apply nth_setN_same | ((with_reducible refine nth_setN_ne ?_ ?_); (first | assumption | omega | (simp; omega))) | ((with_reducible apply nth_new); (first | assumption | (simp only [setN_length, List.length_append, List.length_cons, List.length_nil]; omega))) | with_reducible apply nth_app)); done))))
          | ((with_reducible apply NeedLen.mk); · (first | assumption | rfl))
          | ((with_reducible apply NeedRow.mk); · (first | rfl | (first | assumption | ((repeat (first | assumption | with_reducible apply nth_setN_same | ((with_reducible refine nth_setN_ne ?_ ?_); (first | assumption | omega | (simp; omega))) | ((with_reducible apply nth_new); (first | assumption | (simp only [setN_length, List.length_append, List.length_cons, List.length_nil]; omega))) | with_reducible apply nth_app)); done))))
          | ((with_reducible apply DrawG.mk (List.replicate 60 false)); · (decide +kernel))
          | with_reducible refine NewP.mk (fun id hid => ?_)
          | with_reducible refine NilP.mk (fun e he => ?_)
          | with_reducible exact trivial
          | with_reducible exact And.intro rfl rfl
          | ((with_reducible apply PreP.mk); · (first | with_reducible rfl | assumption | omega | (constructor <;> omega)))
          | with_reducible refine PreP.mk ?_ ?_
          | with_reducible refine BothP.mk ?_ ?_
          | refine Exists.intro _ (PreP.mk (bytesOf_lst _) ?_)
          | refine PreP.mk (lenD_lst _) ?_
          | ((with_reducible apply AncOr.anc); · (decide +kernel))
          | with_reducible refine AncOr.go ?_)
      have hw5 : IntKind.i64.wrap (IntKind.i64.wrap ((n : Int).tmod 20) + 1) = ((n % 20 : Nat) : Int) + 1 := by rw [hn2]; exact wrap64 (by omega) (by omega)
      rw [hw5]
      simp [mkRes]
    · exfalso
      refine hc ?_
      have hw6 : IntKind.i64.wrap ((k : Int) - 1) = (k : Int) - 1 := wrap64 (by omega) (by omega)
      rw [hn2, hw6]
      simp only [cond_false]
      split <;> omega
end Go.Proofs.Ytanknokhbfijdaa
