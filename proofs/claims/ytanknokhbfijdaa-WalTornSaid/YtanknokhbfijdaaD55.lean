/- What functions of the disk, and of the laws over it, do. Conditions: those that each theorem names. -/
import Derived.Test.YtanknokhbfijdaaD54
set_option linter.unusedVariables false
set_option linter.unusedSimpArgs false
namespace Go.Proofs.Ytanknokhbfijdaa
open Go.Ab
set_option maxRecDepth 100000
set_option maxHeartbeats 1000000
attribute [local irreducible] Run CallOK DetCall Br PreP BothP AncOr Onw NeedRows NeedMap NeedRow NeedLen NilP NeedIter RoundP EntryP EqP OptP NewP NewSlice NewMade AppTo DrawG anc drawB
theorem s63 (H : Heap) (l : List UInt8) (hl : l.length ≤ 1000000) : Ab.Spec Try.prog 63 [.p (.lst (l.map byteRow))] H (fun r H' => H' = H ∧ r = u32 (sumS l)) := by
  have hll : ((l.map byteRow).length : Int) = l.length := by simp
  refine Ab.Spec.walk hm Try.func63 (by kernel_rfl) 100 ?_
  repeat' (first
    | ((with_reducible apply Onw.mk); conv => whnf)
    | (with_reducible first | apply Br.tt | apply Br.ff | apply Br.no)
    | ((with_reducible apply Br.t); · assumption)
    | ((with_reducible apply Br.f); · assumption)
    | ((with_reducible apply Br.dt); · exact ab_known)
    | ((with_reducible apply Br.df); · exact ab_known)
    | (with_reducible first | refine Br.dec (fun hc => ?_) (fun hc => ?_) | refine Br.mk (fun hc => ?_) (fun hc => ?_))
    | ((with_reducible first | apply NeedRows.mk | apply NeedMap.mk | apply NeedIter.mk); · exact ab_look)
    | ((with_reducible apply NeedLen.mk); · first | assumption | rfl)
    | ((with_reducible apply NeedRow.mk); · exact ab_lookR)
    | ((with_reducible apply DrawG.mk (List.replicate 60 false)); · decide +kernel)
    | (with_reducible first | refine NewP.mk (fun id hid => ?_) | refine NilP.mk (fun e he => ?_))
    | (with_reducible first | exact trivial | exact And.intro rfl rfl)
    | ((with_reducible apply PreP.mk); · exact ab_asked)
    | refine Exists.intro _ (PreP.mk (bytesOf_lst _) ?_)
    | refine PreP.mk (lenD_lst _) ?_
    | (with_reducible first | refine PreP.mk ?_ ?_ | refine BothP.mk ?_ ?_)
    | ((with_reducible apply AncOr.anc); · decide +kernel)
    | with_reducible refine AncOr.go ?_)
  refine Run.keep [(0, .p (.lst (l.map byteRow))), (3, u32 4294967295), (4, i64 (0 : Nat))] ⟨rfl, rfl, rfl, trivial⟩ ?_
  refine Run.loop (fun (i : Nat) => [(0, .p (.lst (l.map byteRow))), (3, u32 (crcS (l.take i) 4294967295)), (4, i64 i)]) (fun _ => H) (fun i => i ≤ l.length) (fun i => l.length - i) ?_ 0 (Nat.zero_le _)
  intro i hi ih
  rcases Nat.lt_or_ge i l.length with hil | hil
  · obtain ⟨c, hc⟩ : ∃ c, l[i]? = some c := ⟨_, List.getElem?_eq_getElem hil⟩
    have hri : Ab.rowAt (l.map byteRow) (i : Int).toNat = byteRow c := rowAt_map hc
    have hrp : 0 ≤ (i : Int) ∧ (i : Int) < (l.map byteRow).length ∧ (Ab.rowAt (l.map byteRow) (i : Int).toNat).length = 1 := ⟨by omega, by omega, by rw [hri]; rfl⟩
    have hrl : crcS (l.take i) 4294967295 < 4294967296 := crcS_lt (by decide)
    generalize hr0 : crcS (l.take i) 4294967295 = r0 at hrl
    have hcl := c.toNat_lt
    have hw := wrapU32 (n := c.toNat) (by omega)
    have hx := xor32 (a := r0) (b := c.toNat) hrl (by omega)
    refine Run.walk hm Try.func63 100 ?_
    repeat' (first
      | ((with_reducible apply Onw.mk); conv => whnf)
      | (with_reducible first | apply Br.tt | apply Br.ff | apply Br.no)
      | ((with_reducible apply Br.t); · assumption)
      | ((with_reducible apply Br.f); · assumption)
      | ((with_reducible apply Br.dt); · exact ab_known)
      | ((with_reducible apply Br.df); · exact ab_known)
      | (with_reducible first | refine Br.dec (fun hc => ?_) (fun hc => ?_) | refine Br.mk (fun hc => ?_) (fun hc => ?_))
      | (refine PreP.mk hrp ?_)
      | (refine EqP.mk hri ?_)
      | ((with_reducible first | apply NeedRows.mk | apply NeedMap.mk | apply NeedIter.mk); · exact ab_look)
      | ((with_reducible apply NeedLen.mk); · first | assumption | rfl)
      | ((with_reducible apply NeedRow.mk); · exact ab_lookR)
      | ((with_reducible apply DrawG.mk (List.replicate 60 false)); · decide +kernel)
      | (with_reducible first | refine NewP.mk (fun id hid => ?_) | refine NilP.mk (fun e he => ?_))
      | (with_reducible first | exact trivial | exact And.intro rfl rfl)
      | ((with_reducible apply PreP.mk); · exact ab_asked)
      | refine Exists.intro _ (PreP.mk (bytesOf_lst _) ?_)
      | refine PreP.mk (lenD_lst _) ?_
      | (with_reducible first | refine PreP.mk ?_ ?_ | refine BothP.mk ?_ ?_)
      | ((with_reducible apply AncOr.anc); · decide +kernel)
      | with_reducible refine AncOr.go ?_)
    rw [hw, hx]
    refine Run.keep [(0, .p (.lst (l.map byteRow))), (3, u32 (crcN 0 (r0 ^^^ c.toNat))), (4, i64 i), (5, i64 (0 : Nat))] ⟨rfl, rfl, rfl, rfl, trivial⟩ ?_
    have hxl : r0 ^^^ c.toNat < 4294967296 := Nat.xor_lt_two_pow (n := 32) hrl (by omega)
    refine Run.loop (fun (j : Nat) => [(0, .p (.lst (l.map byteRow))), (3, u32 (crcN j (r0 ^^^ c.toNat))), (4, i64 i), (5, i64 j)]) (fun _ => H) (fun j => j ≤ 8) (fun j => 8 - j) ?_ 0 (Nat.zero_le _)
    intro j hj ihj
    have hjl : crcN j (r0 ^^^ c.toNat) < 4294967296 := crcN_lt hxl
    have hst := crcN_step j (r0 ^^^ c.toNat)
    generalize hrf : crcN j (r0 ^^^ c.toNat) = r at hjl hst
    have ha : IntKind.u32.wrap ((BitVec.ofInt IntKind.u32.bits (r : Int) &&& BitVec.ofInt IntKind.u32.bits 1).toNat : Int) = ((r % 2 : Nat) : Int) := by
      have h1 := and32 (a := r) (b := 1) hjl (by decide)
      rw [Nat.and_one_is_mod] at h1
      exact h1
    have hsh : (r : Int).fdiv (2 ^ (min (1 : Int).toNat IntKind.u32.bits)) = ((r / 2 : Nat) : Int) := by
      have e : (2 : Int) ^ (min (1 : Int).toNat IntKind.u32.bits) = 2 := rfl
      rw [e, Int.fdiv_eq_ediv_of_nonneg _ (by decide)]
      omega
    rcases Nat.lt_or_ge j 8 with hj8 | hj8
    · rcases Nat.mod_two_eq_zero_or_one r with hr2 | hr2
      · have hne : ¬ IntKind.u32.wrap ((BitVec.ofInt IntKind.u32.bits (r : Int) &&& BitVec.ofInt IntKind.u32.bits 1).toNat : Int) = 1 := by rw [ha]; omega
        have hS : crcStep r = r / 2 := by unfold crcStep; rw [if_neg (by omega)]
        refine Run.walk hm Try.func63 100 ?_
        repeat' (first
          | ((with_reducible apply Onw.mk); conv => whnf)
          | (with_reducible first | apply Br.tt | apply Br.ff | apply Br.no)
          | ((with_reducible apply Br.t); · assumption)
          | ((with_reducible apply Br.f); · assumption)
          | ((with_reducible apply Br.dt); · exact ab_known)
          | ((with_reducible apply Br.df); · exact ab_known)
          | (with_reducible first | refine Br.dec (fun hc => ?_) (fun hc => ?_) | refine Br.mk (fun hc => ?_) (fun hc => ?_))
          | ((with_reducible first | apply NeedRows.mk | apply NeedMap.mk | apply NeedIter.mk); · exact ab_look)
          | ((with_reducible apply NeedLen.mk); · first | assumption | rfl)
          | ((with_reducible apply NeedRow.mk); · exact ab_lookR)
          | ((with_reducible apply DrawG.mk (List.replicate 60 false)); · decide +kernel)
          | (with_reducible first | refine NewP.mk (fun id hid => ?_) | refine NilP.mk (fun e he => ?_))
          | (with_reducible first | exact trivial | exact And.intro rfl rfl)
          | ((with_reducible apply PreP.mk); · exact ab_asked)
          | refine Exists.intro _ (PreP.mk (bytesOf_lst _) ?_)
          | refine PreP.mk (lenD_lst _) ?_
          | (with_reducible first | refine PreP.mk ?_ ?_ | refine BothP.mk ?_ ?_)
          | ((with_reducible apply AncOr.anc); · decide +kernel)
          | with_reducible refine AncOr.go ?_)
        refine Run.keep _ ?_ (ihj (j + 1) (by omega) (by omega))
        rw [hst, hS]
        exact ⟨rfl, congrArg (fun x => some (D.p (.int .u32 x))) hsh, rfl, slot64 (by omega) (by omega) (by omega), trivial⟩
      · have heq : IntKind.u32.wrap ((BitVec.ofInt IntKind.u32.bits (r : Int) &&& BitVec.ofInt IntKind.u32.bits 1).toNat : Int) = 1 := by rw [ha]; omega
        have hS : crcStep r = (r / 2) ^^^ 3988292384 := by unfold crcStep; rw [if_pos (by omega)]
        have hx2 := xor32 (a := r / 2) (b := 3988292384) (by omega) (by decide)
        refine Run.walk hm Try.func63 100 ?_
        repeat' (first
          | ((with_reducible apply Onw.mk); conv => whnf)
          | (with_reducible first | apply Br.tt | apply Br.ff | apply Br.no)
          | ((with_reducible apply Br.t); · assumption)
          | ((with_reducible apply Br.f); · assumption)
          | ((with_reducible apply Br.dt); · exact ab_known)
          | ((with_reducible apply Br.df); · exact ab_known)
          | (with_reducible first | refine Br.dec (fun hc => ?_) (fun hc => ?_) | refine Br.mk (fun hc => ?_) (fun hc => ?_))
          | ((with_reducible first | apply NeedRows.mk | apply NeedMap.mk | apply NeedIter.mk); · exact ab_look)
          | ((with_reducible apply NeedLen.mk); · first | assumption | rfl)
          | ((with_reducible apply NeedRow.mk); · exact ab_lookR)
          | ((with_reducible apply DrawG.mk (List.replicate 60 false)); · decide +kernel)
          | (with_reducible first | refine NewP.mk (fun id hid => ?_) | refine NilP.mk (fun e he => ?_))
          | (with_reducible first | exact trivial | exact And.intro rfl rfl)
          | ((with_reducible apply PreP.mk); · exact ab_asked)
          | refine Exists.intro _ (PreP.mk (bytesOf_lst _) ?_)
          | refine PreP.mk (lenD_lst _) ?_
          | (with_reducible first | refine PreP.mk ?_ ?_ | refine BothP.mk ?_ ?_)
          | ((with_reducible apply AncOr.anc); · decide +kernel)
          | with_reducible refine AncOr.go ?_)
        refine Run.keep _ ?_ (ihj (j + 1) (by omega) (by omega))
        rw [hst, hS, hsh]
        exact ⟨rfl, congrArg (fun x => some (D.p (.int .u32 x))) hx2, rfl, slot64 (by omega) (by omega) (by omega), trivial⟩
    · obtain rfl : j = 8 := by omega
      have hrfin : crcS [c] r0 = r := hrf
      refine Run.walk hm Try.func63 100 ?_
      repeat' (first
        | ((with_reducible apply Onw.mk); conv => whnf)
        | (with_reducible first | apply Br.tt | apply Br.ff | apply Br.no)
        | ((with_reducible apply Br.t); · assumption)
        | ((with_reducible apply Br.f); · assumption)
        | ((with_reducible apply Br.dt); · exact ab_known)
        | ((with_reducible apply Br.df); · exact ab_known)
        | (with_reducible first | refine Br.dec (fun hc => ?_) (fun hc => ?_) | refine Br.mk (fun hc => ?_) (fun hc => ?_))
        | ((with_reducible first | apply NeedRows.mk | apply NeedMap.mk | apply NeedIter.mk); · exact ab_look)
        | ((with_reducible apply NeedLen.mk); · first | assumption | rfl)
        | ((with_reducible apply NeedRow.mk); · exact ab_lookR)
        | ((with_reducible apply DrawG.mk (List.replicate 60 false)); · decide +kernel)
        | (with_reducible first | refine NewP.mk (fun id hid => ?_) | refine NilP.mk (fun e he => ?_))
        | (with_reducible first | exact trivial | exact And.intro rfl rfl)
        | ((with_reducible apply PreP.mk); · exact ab_asked)
        | refine Exists.intro _ (PreP.mk (bytesOf_lst _) ?_)
        | refine PreP.mk (lenD_lst _) ?_
        | (with_reducible first | refine PreP.mk ?_ ?_ | refine BothP.mk ?_ ?_)
        | ((with_reducible apply AncOr.anc); · decide +kernel)
        | with_reducible refine AncOr.go ?_)
      refine Run.keep _ ?_ (ih (i + 1) (by omega) (by omega))
      have htk : l.take (i + 1) = l.take i ++ [c] := by
        rw [List.take_add_one, hc]; rfl
      have hfin : crcS (l.take (i + 1)) 4294967295 = r := by
        rw [htk, crcS_app, hr0]; exact hrfin
      rw [hfin]
      exact ⟨rfl, rfl, slot64 (by omega) (by omega) (by omega), trivial⟩
  · have hie : i = l.length := by omega
    subst hie
    have hrl : crcS l 4294967295 < 4294967296 := crcS_lt (by decide)
    have hx3 := xor32 (a := 4294967295) (b := crcS l 4294967295) (by decide) hrl
    rw [List.take_length]
    refine Run.walk hm Try.func63 100 ?_
    repeat' (first
      | ((with_reducible apply Onw.mk); conv => whnf)
      | (with_reducible first | apply Br.tt | apply Br.ff | apply Br.no)
      | ((with_reducible apply Br.t); · assumption)
      | ((with_reducible apply Br.f); · assumption)
      | ((with_reducible apply Br.dt); · exact ab_known)
      | ((with_reducible apply Br.df); · exact ab_known)
      | (with_reducible first | refine Br.dec (fun hc => ?_) (fun hc => ?_) | refine Br.mk (fun hc => ?_) (fun hc => ?_))
      | ((with_reducible first | apply NeedRows.mk | apply NeedMap.mk | apply NeedIter.mk); · exact ab_look)
      | ((with_reducible apply NeedLen.mk); · first | assumption | rfl)
      | ((with_reducible apply NeedRow.mk); · exact ab_lookR)
      | ((with_reducible apply DrawG.mk (List.replicate 60 false)); · decide +kernel)
      | (with_reducible first | refine NewP.mk (fun id hid => ?_) | refine NilP.mk (fun e he => ?_))
      | (with_reducible first | exact trivial | exact And.intro rfl rfl)
      | ((with_reducible apply PreP.mk); · exact ab_asked)
      | refine Exists.intro _ (PreP.mk (bytesOf_lst _) ?_)
      | refine PreP.mk (lenD_lst _) ?_
      | (with_reducible first | refine PreP.mk ?_ ?_ | refine BothP.mk ?_ ?_)
      | ((with_reducible apply AncOr.anc); · decide +kernel)
      | with_reducible refine AncOr.go ?_)
    refine ⟨rfl, ?_⟩
    rw [Nat.xor_comm] at hx3
    exact congrArg (fun x => D.p (.int .u32 x)) hx3
theorem s67 (H0 H : Heap) (id0 : Nat) (b : List UInt8) (n : Nat) (hb : b.length ≤ 1000000) (hO : OwnL H0 H id0 (b.map byteRow)) : Ab.Spec Try.prog 67 [.own id0 1 0 b.length none, u64 n, i64 4] H (fun r H' => ∃ id, OwnL H0 H' id ((b ++ putL n 4).map byteRow) ∧ r = .own id 1 0 (b.length + 4) none) := by
  refine Ab.Spec.walk hm Try.func67 (by kernel_rfl) 100 ?_
  repeat' (first
    | ((with_reducible apply Onw.mk); conv => whnf)
    | (with_reducible first | apply Br.tt | apply Br.ff | apply Br.no)
    | ((with_reducible apply Br.t); · assumption)
    | ((with_reducible apply Br.f); · assumption)
    | ((with_reducible apply Br.dt); · exact ab_known)
    | ((with_reducible apply Br.df); · exact ab_known)
    | (with_reducible first | refine Br.dec (fun hc => ?_) (fun hc => ?_) | refine Br.mk (fun hc => ?_) (fun hc => ?_))
    | ((with_reducible first | apply NeedRows.mk | apply NeedMap.mk | apply NeedIter.mk); · exact ab_look)
    | ((with_reducible apply NeedLen.mk); · first | assumption | rfl)
    | ((with_reducible apply NeedRow.mk); · exact ab_lookR)
    | ((with_reducible apply DrawG.mk (List.replicate 60 false)); · decide +kernel)
    | (with_reducible first | refine NewP.mk (fun id hid => ?_) | refine NilP.mk (fun e he => ?_))
    | (with_reducible first | exact trivial | exact And.intro rfl rfl)
    | ((with_reducible apply PreP.mk); · exact ab_asked)
    | refine Exists.intro _ (PreP.mk (bytesOf_lst _) ?_)
    | refine PreP.mk (lenD_lst _) ?_
    | (with_reducible first | refine PreP.mk ?_ ?_ | refine BothP.mk ?_ ?_)
    | ((with_reducible apply AncOr.anc); · decide +kernel)
    | with_reducible refine AncOr.go ?_)
  refine Run.keep [(0, .own id0 1 0 (b.length + (0 : Nat)) none), (1, u64 n), (7, i64 4), (8, i64 (0 : Nat))] ⟨rfl, rfl, rfl, rfl, trivial⟩ ?_
  refine Run.rounds (fun (i : Nat) T H2 => i ≤ 4 ∧ ∃ id, T = [(0, .own id 1 0 (b.length + i) none), (1, u64 n), (7, i64 4), (8, i64 (i : Nat))] ∧ OwnL H0 H2 id ((b ++ putL n i).map byteRow)) (fun i => 4 - i) ?_ (x := 0) ⟨by omega, _, rfl, by rw [show putL n 0 = [] from rfl, List.append_nil]; exact hO⟩
  rintro i T H2 ⟨hi, id, rfl, hO⟩ ih
  have hrow := hO.2.2
  rcases Nat.lt_or_ge i 4 with hil | hil
  · have hw8 : IntKind.u64.wrap (8 * IntKind.u64.wrap (i : Int)) = ((8 * i : Nat) : Int) := by
      rw [wrapU64 (n := i) (by omega), show (8 * (i : Int)) = ((8 * i : Nat) : Int) by omega, wrapU64 (by omega)]
    have hx : [D.p (.int .u8 (IntKind.u8.wrap ((n : Int).fdiv (2 ^ (min (IntKind.u64.wrap (8 * IntKind.u64.wrap (i : Int))).toNat IntKind.u64.bits)))))] = byteRowD (UInt8.ofNat (n / 2 ^ (8 * i))) := by
      have e2 : min ((8 * i : Nat) : Int).toNat IntKind.u64.bits = 8 * i := by
        have : IntKind.u64.bits = 64 := rfl
        rw [this]; omega
      rw [hw8, e2, fdiv_nat, wrapU8_mod]
      simp [byteRowD]
    have hpl : (b ++ putL n i).length = b.length + i := by simp [putL]
    have hsh : 0 ≤ IntKind.u64.wrap (8 * IntKind.u64.wrap (i : Int)) := by rw [hw8]; omega
    refine Run.walk hm Try.func67 100 ?_
    repeat' (first
      | ((with_reducible apply Onw.mk); conv => whnf)
      | (with_reducible first | apply Br.tt | apply Br.ff | apply Br.no)
      | ((with_reducible apply Br.t); · assumption)
      | ((with_reducible apply Br.f); · assumption)
      | ((with_reducible apply Br.dt); · exact ab_known)
      | ((with_reducible apply Br.df); · exact ab_known)
      | (with_reducible first | refine Br.dec (fun hc => ?_) (fun hc => ?_) | refine Br.mk (fun hc => ?_) (fun hc => ?_))
      | ((with_reducible first | apply NeedRows.mk | apply NeedMap.mk | apply NeedIter.mk); · exact ab_look)
      | ((with_reducible apply NeedLen.mk); · first | assumption | rfl)
      | ((with_reducible apply NeedRow.mk); · exact ab_lookR)
      | ((with_reducible apply DrawG.mk (List.replicate 60 false)); · decide +kernel)
      | (with_reducible first | refine NewP.mk (fun id hid => ?_) | refine NilP.mk (fun e he => ?_))
      | (with_reducible first | exact trivial | exact And.intro rfl rfl)
      | ((with_reducible apply PreP.mk); · exact ab_asked)
      | refine Exists.intro _ (PreP.mk (bytesOf_lst _) ?_)
      | refine PreP.mk (lenD_lst _) ?_
      | (with_reducible first | refine PreP.mk ?_ ?_ | refine BothP.mk ?_ ?_)
      | ((with_reducible apply AncOr.anc); · decide +kernel)
      | with_reducible refine AncOr.go ?_)
    refine NewSlice.bytes [UInt8.ofNat (n / 2 ^ (8 * i))] (congrArg (fun x => [x]) hx) rfl rfl ?_
    repeat' (first
      | ((with_reducible apply Onw.mk); conv => whnf)
      | (with_reducible first | apply Br.tt | apply Br.ff | apply Br.no)
      | ((with_reducible apply Br.t); · assumption)
      | ((with_reducible apply Br.f); · assumption)
      | ((with_reducible apply Br.dt); · exact ab_known)
      | ((with_reducible apply Br.df); · exact ab_known)
      | (with_reducible first | refine Br.dec (fun hc => ?_) (fun hc => ?_) | refine Br.mk (fun hc => ?_) (fun hc => ?_))
      | ((with_reducible first | apply NeedRows.mk | apply NeedMap.mk | apply NeedIter.mk); · exact ab_look)
      | ((with_reducible apply NeedLen.mk); · first | assumption | rfl)
      | ((with_reducible apply NeedRow.mk); · exact ab_lookR)
      | ((with_reducible apply DrawG.mk (List.replicate 60 false)); · decide +kernel)
      | (with_reducible first | refine NewP.mk (fun id hid => ?_) | refine NilP.mk (fun e he => ?_))
      | (with_reducible first | exact trivial | exact And.intro rfl rfl)
      | ((with_reducible apply PreP.mk); · exact ab_asked)
      | refine Exists.intro _ (PreP.mk (bytesOf_lst _) ?_)
      | refine PreP.mk (lenD_lst _) ?_
      | (with_reducible first | refine PreP.mk ?_ ?_ | refine BothP.mk ?_ ?_)
      | ((with_reducible apply AncOr.anc); · decide +kernel)
      | with_reducible refine AncOr.go ?_)
    · exact appPre5 _ 0 _ [UInt8.ofNat (n / 2 ^ (8 * i))] (by simp) (by omega) (by simp [putL])
    refine AppTo.new (fun id2 hid2 => ?_)
    repeat' (first
      | ((with_reducible apply Onw.mk); conv => whnf)
      | (with_reducible first | apply Br.tt | apply Br.ff | apply Br.no)
      | ((with_reducible apply Br.t); · assumption)
      | ((with_reducible apply Br.f); · assumption)
      | ((with_reducible apply Br.dt); · exact ab_known)
      | ((with_reducible apply Br.df); · exact ab_known)
      | (with_reducible first | refine Br.dec (fun hc => ?_) (fun hc => ?_) | refine Br.mk (fun hc => ?_) (fun hc => ?_))
      | ((with_reducible first | apply NeedRows.mk | apply NeedMap.mk | apply NeedIter.mk); · exact ab_look)
      | ((with_reducible apply NeedLen.mk); · first | assumption | rfl)
      | ((with_reducible apply NeedRow.mk); · exact ab_lookR)
      | ((with_reducible apply DrawG.mk (List.replicate 60 false)); · decide +kernel)
      | (with_reducible first | refine NewP.mk (fun id hid => ?_) | refine NilP.mk (fun e he => ?_))
      | (with_reducible first | exact trivial | exact And.intro rfl rfl)
      | ((with_reducible apply PreP.mk); · exact ab_asked)
      | refine Exists.intro _ (PreP.mk (bytesOf_lst _) ?_)
      | refine PreP.mk (lenD_lst _) ?_
      | (with_reducible first | refine PreP.mk ?_ ?_ | refine BothP.mk ?_ ?_)
      | ((with_reducible apply AncOr.anc); · decide +kernel)
      | with_reducible refine AncOr.go ?_)
    refine Run.keep _ ?_ (ih (i + 1) _ _ (by omega) ⟨by omega, id2, rfl, ?_⟩)
    · exact ⟨rfl, rfl, rfl, slot64 (by omega) (by omega) (by omega), trivial⟩
    · rw [putL_succ, ← List.append_assoc]
      refine hO.bytes hid2 ?_
      rw [byteRow_map, List.drop_zero, List.take_of_length_le (by simp [putL]), byteRow_map]; simp only [List.map_append]
  · obtain rfl : i = 4 := by omega
    refine Run.walk hm Try.func67 100 ?_
    repeat' (first
      | ((with_reducible apply Onw.mk); conv => whnf)
      | (with_reducible first | apply Br.tt | apply Br.ff | apply Br.no)
      | ((with_reducible apply Br.t); · assumption)
      | ((with_reducible apply Br.f); · assumption)
      | ((with_reducible apply Br.dt); · exact ab_known)
      | ((with_reducible apply Br.df); · exact ab_known)
      | (with_reducible first | refine Br.dec (fun hc => ?_) (fun hc => ?_) | refine Br.mk (fun hc => ?_) (fun hc => ?_))
      | ((with_reducible first | apply NeedRows.mk | apply NeedMap.mk | apply NeedIter.mk); · exact ab_look)
      | ((with_reducible apply NeedLen.mk); · first | assumption | rfl)
      | ((with_reducible apply NeedRow.mk); · exact ab_lookR)
      | ((with_reducible apply DrawG.mk (List.replicate 60 false)); · decide +kernel)
      | (with_reducible first | refine NewP.mk (fun id hid => ?_) | refine NilP.mk (fun e he => ?_))
      | (with_reducible first | exact trivial | exact And.intro rfl rfl)
      | ((with_reducible apply PreP.mk); · exact ab_asked)
      | refine Exists.intro _ (PreP.mk (bytesOf_lst _) ?_)
      | refine PreP.mk (lenD_lst _) ?_
      | (with_reducible first | refine PreP.mk ?_ ?_ | refine BothP.mk ?_ ?_)
      | ((with_reducible apply AncOr.anc); · decide +kernel)
      | with_reducible refine AncOr.go ?_)
    exact ⟨id, hO, rfl⟩
theorem s67n (H0 : Heap) (n : Nat) : Ab.Spec Try.prog 67 [.p .nil, u64 n, i64 4] H0 (fun r H' => ∃ id, OwnL H0 H' id ((putL n 4).map byteRow) ∧ r = .own id 1 0 4 none) := by
  suffices h : ∀ b : List UInt8, b = [] → Ab.Spec Try.prog 67 [.p .nil, u64 n, i64 4] H0 (fun r H' => ∃ id, OwnL H0 H' id ((b ++ putL n 4).map byteRow) ∧ r = .own id 1 0 (b.length + 4) none) from h [] rfl
  intro b hb0
  have hb : b.length ≤ 1000000 := by rw [hb0]; decide
  refine Ab.Spec.walk hm Try.func67 (by kernel_rfl) 100 ?_
  repeat' (first
    | ((with_reducible apply Onw.mk); conv => whnf)
    | (with_reducible first | apply Br.tt | apply Br.ff | apply Br.no)
    | ((with_reducible apply Br.t); · assumption)
    | ((with_reducible apply Br.f); · assumption)
    | ((with_reducible apply Br.dt); · exact ab_known)
    | ((with_reducible apply Br.df); · exact ab_known)
    | (with_reducible first | refine Br.dec (fun hc => ?_) (fun hc => ?_) | refine Br.mk (fun hc => ?_) (fun hc => ?_))
    | ((with_reducible first | apply NeedRows.mk | apply NeedMap.mk | apply NeedIter.mk); · exact ab_look)
    | ((with_reducible apply NeedLen.mk); · first | assumption | rfl)
    | ((with_reducible apply NeedRow.mk); · exact ab_lookR)
    | ((with_reducible apply DrawG.mk (List.replicate 60 false)); · decide +kernel)
    | (with_reducible first | refine NewP.mk (fun id hid => ?_) | refine NilP.mk (fun e he => ?_))
    | (with_reducible first | exact trivial | exact And.intro rfl rfl)
    | ((with_reducible apply PreP.mk); · exact ab_asked)
    | refine Exists.intro _ (PreP.mk (bytesOf_lst _) ?_)
    | refine PreP.mk (lenD_lst _) ?_
    | (with_reducible first | refine PreP.mk ?_ ?_ | refine BothP.mk ?_ ?_)
    | ((with_reducible apply AncOr.anc); · decide +kernel)
    | with_reducible refine AncOr.go ?_)
  refine Run.virt 0 1 rfl ?_
  refine Run.keep [(0, .own H0.length 1 0 (b.length + (0 : Nat)) none), (1, u64 n), (7, i64 4), (8, i64 (0 : Nat))] ⟨by rw [hb0]; rfl, rfl, rfl, rfl, trivial⟩ ?_
  refine Run.rounds (fun (i : Nat) T H2 => i ≤ 4 ∧ ∃ id, T = [(0, .own id 1 0 (b.length + i) none), (1, u64 n), (7, i64 4), (8, i64 (i : Nat))] ∧ OwnL H0 H2 id ((b ++ putL n i).map byteRow)) (fun i => 4 - i) ?_ (x := 0) ⟨by omega, _, rfl, by rw [hb0]; exact OwnL.start H0⟩
  rintro i T H2 ⟨hi, id, rfl, hO⟩ ih
  have hrow := hO.2.2
  rcases Nat.lt_or_ge i 4 with hil | hil
  · have hw8 : IntKind.u64.wrap (8 * IntKind.u64.wrap (i : Int)) = ((8 * i : Nat) : Int) := by
      rw [wrapU64 (n := i) (by omega), show (8 * (i : Int)) = ((8 * i : Nat) : Int) by omega, wrapU64 (by omega)]
    have hx : [D.p (.int .u8 (IntKind.u8.wrap ((n : Int).fdiv (2 ^ (min (IntKind.u64.wrap (8 * IntKind.u64.wrap (i : Int))).toNat IntKind.u64.bits)))))] = byteRowD (UInt8.ofNat (n / 2 ^ (8 * i))) := by
      have e2 : min ((8 * i : Nat) : Int).toNat IntKind.u64.bits = 8 * i := by
        have : IntKind.u64.bits = 64 := rfl
        rw [this]; omega
      rw [hw8, e2, fdiv_nat, wrapU8_mod]
      simp [byteRowD]
    have hpl : (b ++ putL n i).length = b.length + i := by simp [putL]
    have hsh : 0 ≤ IntKind.u64.wrap (8 * IntKind.u64.wrap (i : Int)) := by rw [hw8]; omega
    refine Run.walk hm Try.func67 100 ?_
    repeat' (first
      | ((with_reducible apply Onw.mk); conv => whnf)
      | (with_reducible first | apply Br.tt | apply Br.ff | apply Br.no)
      | ((with_reducible apply Br.t); · assumption)
      | ((with_reducible apply Br.f); · assumption)
      | ((with_reducible apply Br.dt); · exact ab_known)
      | ((with_reducible apply Br.df); · exact ab_known)
      | (with_reducible first | refine Br.dec (fun hc => ?_) (fun hc => ?_) | refine Br.mk (fun hc => ?_) (fun hc => ?_))
      | ((with_reducible first | apply NeedRows.mk | apply NeedMap.mk | apply NeedIter.mk); · exact ab_look)
      | ((with_reducible apply NeedLen.mk); · first | assumption | rfl)
      | ((with_reducible apply NeedRow.mk); · exact ab_lookR)
      | ((with_reducible apply DrawG.mk (List.replicate 60 false)); · decide +kernel)
      | (with_reducible first | refine NewP.mk (fun id hid => ?_) | refine NilP.mk (fun e he => ?_))
      | (with_reducible first | exact trivial | exact And.intro rfl rfl)
      | ((with_reducible apply PreP.mk); · exact ab_asked)
      | refine Exists.intro _ (PreP.mk (bytesOf_lst _) ?_)
      | refine PreP.mk (lenD_lst _) ?_
      | (with_reducible first | refine PreP.mk ?_ ?_ | refine BothP.mk ?_ ?_)
      | ((with_reducible apply AncOr.anc); · decide +kernel)
      | with_reducible refine AncOr.go ?_)
    refine NewSlice.bytes [UInt8.ofNat (n / 2 ^ (8 * i))] (congrArg (fun x => [x]) hx) rfl rfl ?_
    repeat' (first
      | ((with_reducible apply Onw.mk); conv => whnf)
      | (with_reducible first | apply Br.tt | apply Br.ff | apply Br.no)
      | ((with_reducible apply Br.t); · assumption)
      | ((with_reducible apply Br.f); · assumption)
      | ((with_reducible apply Br.dt); · exact ab_known)
      | ((with_reducible apply Br.df); · exact ab_known)
      | (with_reducible first | refine Br.dec (fun hc => ?_) (fun hc => ?_) | refine Br.mk (fun hc => ?_) (fun hc => ?_))
      | ((with_reducible first | apply NeedRows.mk | apply NeedMap.mk | apply NeedIter.mk); · exact ab_look)
      | ((with_reducible apply NeedLen.mk); · first | assumption | rfl)
      | ((with_reducible apply NeedRow.mk); · exact ab_lookR)
      | ((with_reducible apply DrawG.mk (List.replicate 60 false)); · decide +kernel)
      | (with_reducible first | refine NewP.mk (fun id hid => ?_) | refine NilP.mk (fun e he => ?_))
      | (with_reducible first | exact trivial | exact And.intro rfl rfl)
      | ((with_reducible apply PreP.mk); · exact ab_asked)
      | refine Exists.intro _ (PreP.mk (bytesOf_lst _) ?_)
      | refine PreP.mk (lenD_lst _) ?_
      | (with_reducible first | refine PreP.mk ?_ ?_ | refine BothP.mk ?_ ?_)
      | ((with_reducible apply AncOr.anc); · decide +kernel)
      | with_reducible refine AncOr.go ?_)
    · exact appPre5 _ 0 _ [UInt8.ofNat (n / 2 ^ (8 * i))] (by simp) (by omega) (by simp [putL])
    refine AppTo.new (fun id2 hid2 => ?_)
    repeat' (first
      | ((with_reducible apply Onw.mk); conv => whnf)
      | (with_reducible first | apply Br.tt | apply Br.ff | apply Br.no)
      | ((with_reducible apply Br.t); · assumption)
      | ((with_reducible apply Br.f); · assumption)
      | ((with_reducible apply Br.dt); · exact ab_known)
      | ((with_reducible apply Br.df); · exact ab_known)
      | (with_reducible first | refine Br.dec (fun hc => ?_) (fun hc => ?_) | refine Br.mk (fun hc => ?_) (fun hc => ?_))
      | ((with_reducible first | apply NeedRows.mk | apply NeedMap.mk | apply NeedIter.mk); · exact ab_look)
      | ((with_reducible apply NeedLen.mk); · first | assumption | rfl)
      | ((with_reducible apply NeedRow.mk); · exact ab_lookR)
      | ((with_reducible apply DrawG.mk (List.replicate 60 false)); · decide +kernel)
      | (with_reducible first | refine NewP.mk (fun id hid => ?_) | refine NilP.mk (fun e he => ?_))
      | (with_reducible first | exact trivial | exact And.intro rfl rfl)
      | ((with_reducible apply PreP.mk); · exact ab_asked)
      | refine Exists.intro _ (PreP.mk (bytesOf_lst _) ?_)
      | refine PreP.mk (lenD_lst _) ?_
      | (with_reducible first | refine PreP.mk ?_ ?_ | refine BothP.mk ?_ ?_)
      | ((with_reducible apply AncOr.anc); · decide +kernel)
      | with_reducible refine AncOr.go ?_)
    refine Run.keep _ ?_ (ih (i + 1) _ _ (by omega) ⟨by omega, id2, rfl, ?_⟩)
    · exact ⟨rfl, rfl, rfl, slot64 (by omega) (by omega) (by omega), trivial⟩
    · rw [putL_succ, ← List.append_assoc]
      refine hO.bytes hid2 ?_
      rw [byteRow_map, List.drop_zero, List.take_of_length_le (by simp [putL]), byteRow_map]; simp only [List.map_append]
  · obtain rfl : i = 4 := by omega
    refine Run.walk hm Try.func67 100 ?_
    repeat' (first
      | ((with_reducible apply Onw.mk); conv => whnf)
      | (with_reducible first | apply Br.tt | apply Br.ff | apply Br.no)
      | ((with_reducible apply Br.t); · assumption)
      | ((with_reducible apply Br.f); · assumption)
      | ((with_reducible apply Br.dt); · exact ab_known)
      | ((with_reducible apply Br.df); · exact ab_known)
      | (with_reducible first | refine Br.dec (fun hc => ?_) (fun hc => ?_) | refine Br.mk (fun hc => ?_) (fun hc => ?_))
      | ((with_reducible first | apply NeedRows.mk | apply NeedMap.mk | apply NeedIter.mk); · exact ab_look)
      | ((with_reducible apply NeedLen.mk); · first | assumption | rfl)
      | ((with_reducible apply NeedRow.mk); · exact ab_lookR)
      | ((with_reducible apply DrawG.mk (List.replicate 60 false)); · decide +kernel)
      | (with_reducible first | refine NewP.mk (fun id hid => ?_) | refine NilP.mk (fun e he => ?_))
      | (with_reducible first | exact trivial | exact And.intro rfl rfl)
      | ((with_reducible apply PreP.mk); · exact ab_asked)
      | refine Exists.intro _ (PreP.mk (bytesOf_lst _) ?_)
      | refine PreP.mk (lenD_lst _) ?_
      | (with_reducible first | refine PreP.mk ?_ ?_ | refine BothP.mk ?_ ?_)
      | ((with_reducible apply AncOr.anc); · decide +kernel)
      | with_reducible refine AncOr.go ?_)
    exact ⟨id, hO, rfl⟩
end Go.Proofs.Ytanknokhbfijdaa
