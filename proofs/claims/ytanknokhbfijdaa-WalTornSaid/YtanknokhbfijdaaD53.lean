/- What functions of the disk, and of the laws over it, do. Conditions: those that each theorem names. -/
import Derived.Test.YtanknokhbfijdaaD51
set_option linter.unusedVariables false
set_option linter.unusedSimpArgs false
namespace Go.Proofs.Ytanknokhbfijdaa
open Go.Ab
set_option maxRecDepth 100000
theorem xor_back (a b p : Nat) (h : a ^^^ p = b ^^^ p) : a = b := by
  have e := congrArg (· ^^^ p) h
  simpa [Nat.xor_assoc] using e
theorem xor_front (a b p : Nat) (h : p ^^^ a = p ^^^ b) : a = b := xor_back a b p (by rw [Nat.xor_comm a, Nat.xor_comm b]; exact h)
theorem bit31 {a : Nat} (h : a < 2147483648) : (a ^^^ 3988292384).testBit 31 = true := by
  rw [Nat.testBit_xor, Nat.testBit_lt_two_pow (by simpa using h)]; decide
theorem crcStep_inj {a b : Nat} (ha : a < 4294967296) (hb : b < 4294967296) (h : crcStep a = crcStep b) : a = b := by
  unfold crcStep at h
  have n31 : ∀ {x : Nat}, x < 2147483648 → x.testBit 31 = false := fun hx => Nat.testBit_lt_two_pow (by simpa using hx)
  split at h <;> split at h
  · have := xor_back _ _ _ h; omega
  · have e := congrArg (·.testBit 31) h
    simp only [bit31 (show a / 2 < 2147483648 by omega), n31 (show b / 2 < 2147483648 by omega)] at e
    cases e
  · have e := congrArg (·.testBit 31) h
    simp only [bit31 (show b / 2 < 2147483648 by omega), n31 (show a / 2 < 2147483648 by omega)] at e
    cases e
  · omega
theorem crcN_inj : ∀ {j a b : Nat}, a < 4294967296 → b < 4294967296 → crcN j a = crcN j b → a = b
  | 0, _, _, _, _, h => h
  | j + 1, _, _, ha, hb, h => crcStep_inj ha hb (crcN_inj (crcStep_lt ha) (crcStep_lt hb) h)
theorem xorb_lt {r : Nat} (h : r < 4294967296) (c : UInt8) : r ^^^ c.toNat < 4294967296 := Nat.xor_lt_two_pow (n := 32) h (by have := c.toNat_lt; omega)
theorem crcS_inj : ∀ {l : List UInt8} {a b : Nat}, a < 4294967296 → b < 4294967296 → crcS l a = crcS l b → a = b
  | [], _, _, _, _, h => h
  | c :: l, _, _, ha, hb, h => xor_back _ _ _ (crcN_inj (xorb_lt ha c) (xorb_lt hb c) (crcS_inj (crcN_lt (xorb_lt ha c)) (crcN_lt (xorb_lt hb c)) h))
/-- One byte turned: another sum. -/
theorem sumS_turned (a b : List UInt8) (x y : UInt8) (h : x ≠ y) : sumS (a ++ x :: b) ≠ sumS (a ++ y :: b) := by
  intro e
  have e1 := xor_back _ _ _ e
  rw [crcS_app, crcS_app] at e1
  have hr : crcS a 4294967295 < 4294967296 := crcS_lt (by decide)
  have e2 : crcN 8 (crcS a 4294967295 ^^^ x.toNat) = crcN 8 (crcS a 4294967295 ^^^ y.toNat) := crcS_inj (crcN_lt (xorb_lt hr x)) (crcN_lt (xorb_lt hr y)) e1
  have e3 := xor_front _ _ _ (crcN_inj (xorb_lt hr x) (xorb_lt hr y) e2)
  exact h (UInt8.toNat_inj.1 e3)
theorem sumS_set {s : List UInt8} {j : Nat} {x w : UInt8} (hx : s[j]? = some x) (hw : w ≠ 0) : sumS (s.set j (x ^^^ w)) ≠ sumS s := by
  obtain ⟨hj, he⟩ := List.getElem?_eq_some_iff.1 hx
  have e : s = s.take j ++ x :: s.drop (j + 1) := by rw [← he, List.getElem_cons_drop, List.take_append_drop]
  rw [List.set_eq_take_append_cons_drop, if_pos hj]
  conv => rhs; rw [e]
  refine sumS_turned _ _ _ _ (fun h => hw ?_)
  have e2 := congrArg (x ^^^ ·) h
  simpa [← UInt8.xor_assoc] using e2
theorem nextL_turned (s t rest : List UInt8) (hs : s.length ≤ 4000) (hl : t.length = s.length) (hne : sumS t ≠ sumS s) : nextL (putL s.length 4 ++ putL (sumS s) 4 ++ t ++ rest) = none := by
  have hsum := sumS_lt s
  unfold nextL
  split
  · rfl
  have e1 : (putL s.length 4 ++ putL (sumS s) 4 ++ t ++ rest).take 4 = putL s.length 4 := by
    rw [List.append_assoc, List.append_assoc, take_pre (putL_len _ _)]
  have e2 : ((putL s.length 4 ++ putL (sumS s) 4 ++ t ++ rest).drop 4).take 4 = putL (sumS s) 4 := by
    rw [List.append_assoc, List.append_assoc, drop_pre (putL_len _ _), take_pre (putL_len _ _)]
  have e3 : (putL s.length 4 ++ putL (sumS s) 4 ++ t ++ rest).drop 8 = t ++ rest := by
    rw [List.append_assoc, drop_pre (by rw [List.length_append, putL_len, putL_len])]
  rw [e1, e2, e3, valN_put _ (by omega), valN_put _ hsum, if_pos]
  right; right
  rw [← hl, List.take_left]
  exact hne
/-- The records behind a byte of one that was turned are lost; what is ahead stays. -/
theorem scanL_turned (l : List (List UInt8)) (k j : Nat) (s : List UInt8) (x w : UInt8) (hs : ∀ s ∈ l, s.length ≤ 4000) (hk : l[k]? = some s) (hx : s[j]? = some x) (hw : w ≠ 0) :
    ((framesL l)[(framesL (l.take k)).length + 8 + j]? = some x) ∧
    (scanL ((framesL l).set ((framesL (l.take k)).length + 8 + j) (x ^^^ w))).1 = l.take k ∧ (scanL ((framesL l).set ((framesL (l.take k)).length + 8 + j) (x ^^^ w))).2.length + (framesL (l.take k)).length = (framesL l).length := by
  obtain ⟨hkl, hke⟩ := List.getElem?_eq_some_iff.1 hk
  obtain ⟨hj, he⟩ := List.getElem?_eq_some_iff.1 hx
  have hsl : s.length ≤ 4000 := hs s (List.mem_of_getElem? hk)
  have e : framesL l = framesL (l.take k) ++ ((putL s.length 4 ++ putL (sumS s) 4) ++ (s ++ framesL (l.drop (k + 1)))) := by
    conv => lhs; rw [← List.take_append_drop k l, List.drop_eq_getElem_cons hkl, hke]
    rw [framesL_app, framesL_cons]
    simp [frameL]
  have h8 : (putL s.length 4 ++ putL (sumS s) 4).length = 8 := by rw [List.length_append, putL_len, putL_len]
  have e2 : (framesL l).set ((framesL (l.take k)).length + 8 + j) (x ^^^ w) = framesL (l.take k) ++ (putL s.length 4 ++ putL (sumS s) 4 ++ s.set j (x ^^^ w) ++ framesL (l.drop (k + 1))) := by
    rw [e, List.set_append_right _ _ (by omega), List.set_append_right _ _ (by omega), List.set_append_left _ _ (by omega)]
    rw [h8, show (framesL (l.take k)).length + 8 + j - (framesL (l.take k)).length - 8 = j by omega]
    simp
  have hn := nextL_turned s (s.set j (x ^^^ w)) (framesL (l.drop (k + 1))) hsl (by simp) (sumS_set hx hw)
  refine ⟨?_, ?_, ?_⟩
  · rw [e, List.getElem?_append_right (by omega), List.getElem?_append_right (by omega), h8, show (framesL (l.take k)).length + 8 + j - (framesL (l.take k)).length - 8 = j by omega, List.getElem?_append_left hj, hx]
  · rw [e2, scanL_frames _ _ (fun s h => hs s (List.mem_of_mem_take h)), scanL_none hn]; simp
  · have hle := congrArg List.length e
    rw [e2, scanL_frames _ _ (fun s h => hs s (List.mem_of_mem_take h)), scanL_none hn]
    simp only [List.length_append, List.length_set, putL_len] at hle ⊢
    omega
end Go.Proofs.Ytanknokhbfijdaa
