/- What functions of the disk, and of the laws over it, do. Conditions: those that each theorem names. -/
import Derived.Test.YtanknokhbfijdaaD15
import Derived.Test.YtanknokhbfijdaaKc
import Derived.Test.YtanknokhbfijdaaLaid2
set_option linter.unusedVariables false
set_option linter.unusedSimpArgs false
namespace Go.Proofs.Ytanknokhbfijdaa
open Go.Ab
set_option maxRecDepth 100000
set_option maxHeartbeats 1000000
attribute [local irreducible] Run CallOK DetCall Br PreP BothP AncOr Onw NeedRows NeedMap NeedRow NeedLen NilP NeedIter RoundP EntryP EqP OptP NewP NewSlice NewMade AppTo DrawG anc drawB
def u32 (n : Nat) : D := .p (.int .u32 n)
def u64 (n : Nat) : D := .p (.int .u64 n)
/-- One bit of the sum. -/
def crcStep (r : Nat) : Nat := if r % 2 = 1 then (r / 2) ^^^ 3988292384 else r / 2
def crcN : Nat → Nat → Nat
  | 0, r => r
  | j + 1, r => crcN j (crcStep r)
theorem crcStep_lt {r : Nat} (h : r < 4294967296) : crcStep r < 4294967296 := by
  unfold crcStep
  split
  · exact Nat.xor_lt_two_pow (n := 32) (by omega) (by decide)
  · omega
theorem crcN_lt : ∀ {j r : Nat}, r < 4294967296 → crcN j r < 4294967296
  | 0, _, h => h
  | j + 1, r, h => by
    show crcN j (crcStep r) < 4294967296
    exact crcN_lt (crcStep_lt h)
theorem crcN_step : ∀ (j r : Nat), crcN (j + 1) r = crcStep (crcN j r)
  | 0, _ => rfl
  | j + 1, r => by
    show crcN (j + 1) (crcStep r) = _
    rw [crcN_step j (crcStep r)]; rfl
/-- The sum's state behind bytes. -/
def crcS : List UInt8 → Nat → Nat
  | [], r => r
  | c :: l, r => crcS l (crcN 8 (r ^^^ c.toNat))
theorem crcS_lt : ∀ {l : List UInt8} {r : Nat}, r < 4294967296 → crcS l r < 4294967296
  | [], _, h => h
  | c :: l, r, h => by
    show crcS l (crcN 8 (r ^^^ c.toNat)) < 4294967296
    exact crcS_lt (crcN_lt (Nat.xor_lt_two_pow (n := 32) h (by have := c.toNat_lt; omega)))
theorem crcS_app (l l' : List UInt8) (r : Nat) : crcS (l ++ l') r = crcS l' (crcS l r) := by
  induction l generalizing r with
  | nil => rfl
  | cons c l ih => exact ih _
def sumS (l : List UInt8) : Nat := crcS l 4294967295 ^^^ 4294967295
theorem sumS_lt (l : List UInt8) : sumS l < 4294967296 := Nat.xor_lt_two_pow (n := 32) (crcS_lt (by decide)) (by decide)
theorem s66 (H : Heap) (l : List UInt8) (hl : l.length ≤ 1000000) : Ab.Spec Try.prog 66 [.p (.lst (l.map byteRow))] H (fun r H' => H' = H ∧ r = u32 (sumS l)) := by
  have hll : ((l.map byteRow).length : Int) = l.length := by simp
  refine Ab.Spec.walk hm Try.func66 (by kernel_rfl) 100 ?_
  repeat' (first
    | ((with_reducible apply Onw.mk); conv => whnf)
    | (with_reducible first | apply Br.tt | apply Br.ff | apply Br.no)
    | ((with_reducible apply Br.t); · assumption)
    | ((with_reducible apply Br.f); · assumption)
    | ((with_reducible apply Br.dt); · exact ab_known)
    | ((with_reducible apply Br.df); · exact ab_known)
    | (with_reducible first | refine Br.dec (fun hc => ?_) (fun hc => ?_) | refine Br.mk (fun hc => ?_) (fun hc => ?_))
    | ((with_reducible first | apply NeedRows.mk | apply NeedMap.mk | apply NeedIter.mk); · exact ab_look)
    | ((with_reducible apply NeedLen.mk); · first | assumption | rfl)
    | ((with_reducible apply NeedRow.mk); · exact ab_lookR)
    | ((with_reducible apply DrawG.mk (List.replicate 60 false)); · decide +kernel)
    | (with_reducible first | refine NewP.mk (fun id hid => ?_) | refine NilP.mk (fun e he => ?_))
    | (with_reducible first | exact trivial | exact And.intro rfl rfl)
    | ((with_reducible apply PreP.mk); · exact ab_asked)
    | refine Exists.intro _ (PreP.mk (bytesOf_lst _) ?_)
    | refine PreP.mk (lenD_lst _) ?_
    | (with_reducible first | refine PreP.mk ?_ ?_ | refine BothP.mk ?_ ?_)
    | ((with_reducible apply AncOr.anc); · decide +kernel)
    | with_reducible refine AncOr.go ?_)
  refine Run.keep [(3, u32 4294967295), (7, .p (.lst (l.map byteRow))), (8, i64 l.length), (9, i64 (0 : Nat))] ⟨rfl, rfl, congrArg (fun x => some (i64 x)) hll, rfl, trivial⟩ ?_
  refine Run.loop (fun (i : Nat) => [(3, u32 (crcS (l.take i) 4294967295)), (7, .p (.lst (l.map byteRow))), (8, i64 l.length), (9, i64 i)]) (fun _ => H) (fun i => i ≤ l.length) (fun i => l.length - i) ?_ 0 (Nat.zero_le _)
  intro i hi ih
  rcases Nat.lt_or_ge i l.length with hil | hil
  · obtain ⟨c, hc⟩ : ∃ c, l[i]? = some c := ⟨_, List.getElem?_eq_getElem hil⟩
    have hri : Ab.rowAt (l.map byteRow) (i : Int).toNat = byteRow c := rowAt_map hc
    have hrp : 0 ≤ (i : Int) ∧ (i : Int) < (l.map byteRow).length ∧ (Ab.rowAt (l.map byteRow) (i : Int).toNat).length = 1 := ⟨by omega, by omega, by rw [hri]; rfl⟩
    have hrl : crcS (l.take i) 4294967295 < 4294967296 := crcS_lt (by decide)
    generalize hr0 : crcS (l.take i) 4294967295 = r0 at hrl
    have hcl := c.toNat_lt
    have hw := wrapU32 (n := c.toNat) (by omega)
    have hx := xor32 (a := r0) (b := c.toNat) hrl (by omega)
    refine Run.walk hm Try.func66 100 ?_
    repeat' (first
      | ((with_reducible apply Onw.mk); conv => whnf)
      | (with_reducible first | apply Br.tt | apply Br.ff | apply Br.no)
      | ((with_reducible apply Br.t); · assumption)
      | ((with_reducible apply Br.f); · assumption)
      | ((with_reducible apply Br.dt); · exact ab_known)
      | ((with_reducible apply Br.df); · exact ab_known)
      | (with_reducible first | refine Br.dec (fun hc => ?_) (fun hc => ?_) | refine Br.mk (fun hc => ?_) (fun hc => ?_))
      | (refine PreP.mk hrp ?_)
      | (refine EqP.mk hri ?_)
      | ((with_reducible first | apply NeedRows.mk | apply NeedMap.mk | apply NeedIter.mk); · exact ab_look)
      | ((with_reducible apply NeedLen.mk); · first | assumption | rfl)
      | ((with_reducible apply NeedRow.mk); · exact ab_lookR)
      | ((with_reducible apply DrawG.mk (List.replicate 60 false)); · decide +kernel)
      | (with_reducible first | refine NewP.mk (fun id hid => ?_) | refine NilP.mk (fun e he => ?_))
      | (with_reducible first | exact trivial | exact And.intro rfl rfl)
      | ((with_reducible apply PreP.mk); · exact ab_asked)
      | refine Exists.intro _ (PreP.mk (bytesOf_lst _) ?_)
      | refine PreP.mk (lenD_lst _) ?_
      | (with_reducible first | refine PreP.mk ?_ ?_ | refine BothP.mk ?_ ?_)
      | ((with_reducible apply AncOr.anc); · decide +kernel)
      | with_reducible refine AncOr.go ?_)
    rw [hw, hx]
    refine Run.keep [(3, u32 (crcN 0 (r0 ^^^ c.toNat))), (7, .p (.lst (l.map byteRow))), (8, i64 l.length), (9, i64 i), (17, i64 (0 : Nat))] ⟨rfl, rfl, rfl, rfl, rfl, trivial⟩ ?_
    have hxl : r0 ^^^ c.toNat < 4294967296 := Nat.xor_lt_two_pow (n := 32) hrl (by omega)
    refine Run.loop (fun (j : Nat) => [(3, u32 (crcN j (r0 ^^^ c.toNat))), (7, .p (.lst (l.map byteRow))), (8, i64 l.length), (9, i64 i), (17, i64 j)]) (fun _ => H) (fun j => j ≤ 8) (fun j => 8 - j) ?_ 0 (Nat.zero_le _)
    intro j hj ihj
    have hjl : crcN j (r0 ^^^ c.toNat) < 4294967296 := crcN_lt hxl
    have hst := crcN_step j (r0 ^^^ c.toNat)
    generalize hrf : crcN j (r0 ^^^ c.toNat) = r at hjl hst
    have ha : IntKind.u32.wrap ((BitVec.ofInt IntKind.u32.bits (r : Int) &&& BitVec.ofInt IntKind.u32.bits 1).toNat : Int) = ((r % 2 : Nat) : Int) := by
      have h1 := and32 (a := r) (b := 1) hjl (by decide)
      rw [Nat.and_one_is_mod] at h1
      exact h1
    have hsh : (r : Int).fdiv (2 ^ (min (1 : Int).toNat IntKind.u32.bits)) = ((r / 2 : Nat) : Int) := by
      have e : (2 : Int) ^ (min (1 : Int).toNat IntKind.u32.bits) = 2 := rfl
      rw [e, Int.fdiv_eq_ediv_of_nonneg _ (by decide)]
      omega
    rcases Nat.lt_or_ge j 8 with hj8 | hj8
    · rcases Nat.mod_two_eq_zero_or_one r with hr2 | hr2
      · have hne : ¬ IntKind.u32.wrap ((BitVec.ofInt IntKind.u32.bits (r : Int) &&& BitVec.ofInt IntKind.u32.bits 1).toNat : Int) = 1 := by rw [ha]; omega
        have hS : crcStep r = r / 2 := by unfold crcStep; rw [if_neg (by omega)]
        refine Run.walk hm Try.func66 100 ?_
        repeat' (first
          | ((with_reducible apply Onw.mk); conv => whnf)
          | (with_reducible first | apply Br.tt | apply Br.ff | apply Br.no)
          | ((with_reducible apply Br.t); · assumption)
          | ((with_reducible apply Br.f); · assumption)
          | ((with_reducible apply Br.dt); · exact ab_known)
          | ((with_reducible apply Br.df); · exact ab_known)
          | (with_reducible first | refine Br.dec (fun hc => ?_) (fun hc => ?_) | refine Br.mk (fun hc => ?_) (fun hc => ?_))
          | ((with_reducible first | apply NeedRows.mk | apply NeedMap.mk | apply NeedIter.mk); · exact ab_look)
          | ((with_reducible apply NeedLen.mk); · first | assumption | rfl)
          | ((with_reducible apply NeedRow.mk); · exact ab_lookR)
          | ((with_reducible apply DrawG.mk (List.replicate 60 false)); · decide +kernel)
          | (with_reducible first | refine NewP.mk (fun id hid => ?_) | refine NilP.mk (fun e he => ?_))
          | (with_reducible first | exact trivial | exact And.intro rfl rfl)
          | ((with_reducible apply PreP.mk); · exact ab_asked)
          | refine Exists.intro _ (PreP.mk (bytesOf_lst _) ?_)
          | refine PreP.mk (lenD_lst _) ?_
          | (with_reducible first | refine PreP.mk ?_ ?_ | refine BothP.mk ?_ ?_)
          | ((with_reducible apply AncOr.anc); · decide +kernel)
          | with_reducible refine AncOr.go ?_)
        refine Run.keep _ ?_ (ihj (j + 1) (by omega) (by omega))
        rw [hst, hS]
        exact ⟨congrArg (fun x => some (D.p (.int .u32 x))) hsh, rfl, rfl, rfl, slot64 (by omega) (by omega) (by omega), trivial⟩
      · have heq : IntKind.u32.wrap ((BitVec.ofInt IntKind.u32.bits (r : Int) &&& BitVec.ofInt IntKind.u32.bits 1).toNat : Int) = 1 := by rw [ha]; omega
        have hS : crcStep r = (r / 2) ^^^ 3988292384 := by unfold crcStep; rw [if_pos (by omega)]
        have hx2 := xor32 (a := r / 2) (b := 3988292384) (by omega) (by decide)
        refine Run.walk hm Try.func66 100 ?_
        repeat' (first
          | ((with_reducible apply Onw.mk); conv => whnf)
          | (with_reducible first | apply Br.tt | apply Br.ff | apply Br.no)
          | ((with_reducible apply Br.t); · assumption)
          | ((with_reducible apply Br.f); · assumption)
          | ((with_reducible apply Br.dt); · exact ab_known)
          | ((with_reducible apply Br.df); · exact ab_known)
          | (with_reducible first | refine Br.dec (fun hc => ?_) (fun hc => ?_) | refine Br.mk (fun hc => ?_) (fun hc => ?_))
          | ((with_reducible first | apply NeedRows.mk | apply NeedMap.mk | apply NeedIter.mk); · exact ab_look)
          | ((with_reducible apply NeedLen.mk); · first | assumption | rfl)
          | ((with_reducible apply NeedRow.mk); · exact ab_lookR)
          | ((with_reducible apply DrawG.mk (List.replicate 60 false)); · decide +kernel)
          | (with_reducible first | refine NewP.mk (fun id hid => ?_) | refine NilP.mk (fun e he => ?_))
          | (with_reducible first | exact trivial | exact And.intro rfl rfl)
          | ((with_reducible apply PreP.mk); · exact ab_asked)
          | refine Exists.intro _ (PreP.mk (bytesOf_lst _) ?_)
          | refine PreP.mk (lenD_lst _) ?_
          | (with_reducible first | refine PreP.mk ?_ ?_ | refine BothP.mk ?_ ?_)
          | ((with_reducible apply AncOr.anc); · decide +kernel)
          | with_reducible refine AncOr.go ?_)
        refine Run.keep _ ?_ (ihj (j + 1) (by omega) (by omega))
        rw [hst, hS, hsh]
        exact ⟨congrArg (fun x => some (D.p (.int .u32 x))) hx2, rfl, rfl, rfl, slot64 (by omega) (by omega) (by omega), trivial⟩
    · obtain rfl : j = 8 := by omega
      have hrfin : crcS [c] r0 = r := hrf
      refine Run.walk hm Try.func66 100 ?_
      repeat' (first
        | ((with_reducible apply Onw.mk); conv => whnf)
        | (with_reducible first | apply Br.tt | apply Br.ff | apply Br.no)
        | ((with_reducible apply Br.t); · assumption)
        | ((with_reducible apply Br.f); · assumption)
        | ((with_reducible apply Br.dt); · exact ab_known)
        | ((with_reducible apply Br.df); · exact ab_known)
        | (with_reducible first | refine Br.dec (fun hc => ?_) (fun hc => ?_) | refine Br.mk (fun hc => ?_) (fun hc => ?_))
        | ((with_reducible first | apply NeedRows.mk | apply NeedMap.mk | apply NeedIter.mk); · exact ab_look)
        | ((with_reducible apply NeedLen.mk); · first | assumption | rfl)
        | ((with_reducible apply NeedRow.mk); · exact ab_lookR)
        | ((with_reducible apply DrawG.mk (List.replicate 60 false)); · decide +kernel)
        | (with_reducible first | refine NewP.mk (fun id hid => ?_) | refine NilP.mk (fun e he => ?_))
        | (with_reducible first | exact trivial | exact And.intro rfl rfl)
        | ((with_reducible apply PreP.mk); · exact ab_asked)
        | refine Exists.intro _ (PreP.mk (bytesOf_lst _) ?_)
        | refine PreP.mk (lenD_lst _) ?_
        | (with_reducible first | refine PreP.mk ?_ ?_ | refine BothP.mk ?_ ?_)
        | ((with_reducible apply AncOr.anc); · decide +kernel)
        | with_reducible refine AncOr.go ?_)
      refine Run.keep _ ?_ (ih (i + 1) (by omega) (by omega))
      have htk : l.take (i + 1) = l.take i ++ [c] := by
        rw [List.take_add_one, hc]; rfl
      have hfin : crcS (l.take (i + 1)) 4294967295 = r := by
        rw [htk, crcS_app, hr0]; exact hrfin
      rw [hfin]
      exact ⟨rfl, rfl, rfl, slot64 (by omega) (by omega) (by omega), trivial⟩
  · have hie : i = l.length := by omega
    subst hie
    have hrl : crcS l 4294967295 < 4294967296 := crcS_lt (by decide)
    have hx3 := xor32 (a := 4294967295) (b := crcS l 4294967295) (by decide) hrl
    rw [List.take_length]
    refine Run.walk hm Try.func66 100 ?_
    repeat' (first
      | ((with_reducible apply Onw.mk); conv => whnf)
      | (with_reducible first | apply Br.tt | apply Br.ff | apply Br.no)
      | ((with_reducible apply Br.t); · assumption)
      | ((with_reducible apply Br.f); · assumption)
      | ((with_reducible apply Br.dt); · exact ab_known)
      | ((with_reducible apply Br.df); · exact ab_known)
      | (with_reducible first | refine Br.dec (fun hc => ?_) (fun hc => ?_) | refine Br.mk (fun hc => ?_) (fun hc => ?_))
      | ((with_reducible first | apply NeedRows.mk | apply NeedMap.mk | apply NeedIter.mk); · exact ab_look)
      | ((with_reducible apply NeedLen.mk); · first | assumption | rfl)
      | ((with_reducible apply NeedRow.mk); · exact ab_lookR)
      | ((with_reducible apply DrawG.mk (List.replicate 60 false)); · decide +kernel)
      | (with_reducible first | refine NewP.mk (fun id hid => ?_) | refine NilP.mk (fun e he => ?_))
      | (with_reducible first | exact trivial | exact And.intro rfl rfl)
      | ((with_reducible apply PreP.mk); · exact ab_asked)
      | refine Exists.intro _ (PreP.mk (bytesOf_lst _) ?_)
      | refine PreP.mk (lenD_lst _) ?_
      | (with_reducible first | refine PreP.mk ?_ ?_ | refine BothP.mk ?_ ?_)
      | ((with_reducible apply AncOr.anc); · decide +kernel)
      | with_reducible refine AncOr.go ?_)
    refine ⟨rfl, ?_⟩
    rw [Nat.xor_comm] at hx3
    exact congrArg (fun x => D.p (.int .u32 x)) hx3
end Go.Proofs.Ytanknokhbfijdaa
