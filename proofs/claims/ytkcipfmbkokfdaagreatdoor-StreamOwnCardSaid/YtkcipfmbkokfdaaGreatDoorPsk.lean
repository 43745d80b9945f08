import Derived.Test.YtkcipfmbkokfdaaGreatDoorRfBasek
import Derived.Lib.ItoaNum
import Derived.Test.YtkcipfmbkokfdaaGreatDoorAtk
import Derived.Test.YtkcipfmbkokfdaaGreatDoorRf00k
import Derived.Test.YtkcipfmbkokfdaaGreatDoorRf01k
import Derived.Test.YtkcipfmbkokfdaaGreatDoorRf10k
import Derived.Test.YtkcipfmbkokfdaaGreatDoorRf11k
namespace Go.Proofs.YtkcipfmbkokfdaaGreatDoor
open Go.Lib

theorem nDigits_low (u : Nat) (h : 1 ≤ u) : 10 ^ (nDigits u - 1) ≤ u := by
  induction u using Nat.strongRecOn with
  | _ u ih =>
    by_cases h10 : u < 10
    · rw [nDigits_small h10]; simpa using h
    · rw [nDigits_big h10]
      have := ih (u / 10) (by omega) (by omega)
      have hp := nDigits_pos (u / 10)
      rw [Nat.add_sub_cancel, show nDigits (u / 10) = (nDigits (u / 10) - 1) + 1 by omega, Nat.pow_succ]
      omega
theorem nDigits_le (u n : Nat) (h : u < 10 ^ n) (hn : 1 ≤ n) : nDigits u ≤ n := by
  rcases Nat.eq_zero_or_pos u with h0 | h0
  · rw [h0, nDigits_small (by decide)]; exact hn
  · rcases Nat.lt_or_ge n (nDigits u) with h1 | h1
    · exfalso
      have a := nDigits_low u h0
      have b : 10 ^ n ≤ 10 ^ (nDigits u - 1) := Nat.pow_le_pow_right (by decide) (by omega)
      omega
    · exact h1
theorem decDigits_at (u t : Nat) (ht : t < nDigits u) : ((decDigits u).getD t 0).toNat = 48 + u / 10 ^ (nDigits u - 1 - t) % 10 := by
  rw [decDigits_eq, List.getD_eq_getElem?_getD, List.getElem?_map, List.getElem?_range ht]
  simp only [Option.map_some, Option.getD_some, dg]
  have : u / 10 ^ (nDigits u - 1 - t) % 10 < 10 := Nat.mod_lt _ (by decide)
  simp [UInt8.toNat_ofNat']
  omega
/-- The value of the first k digits. -/
def preV (u k : Nat) : Nat := u / 10 ^ (nDigits u - k)
theorem preV_zero (u : Nat) : preV u 0 = 0 := by
  unfold preV; rw [Nat.sub_zero]; exact Nat.div_eq_of_lt (lt_pow_nDigits u)
theorem preV_all (u : Nat) : preV u (nDigits u) = u := by
  unfold preV; rw [Nat.sub_self]; simp
theorem preV_succ (u k : Nat) (h : k < nDigits u) : preV u (k + 1) = preV u k * 10 + u / 10 ^ (nDigits u - 1 - k) % 10 := by
  unfold preV
  obtain ⟨t, ht⟩ : ∃ t, nDigits u - 1 - k = t := ⟨_, rfl⟩
  rw [show nDigits u - (k + 1) = t by omega, show nDigits u - k = t + 1 by omega, ht, Nat.pow_succ, ← Nat.div_div_eq_div_mul]
  omega
theorem preV_le (u k : Nat) : preV u k ≤ u := Nat.div_le_self _ _

theorem getD_app_left {a b : List UInt8} {i : Nat} (h : i < a.length) : (a ++ b).getD i 0 = a.getD i 0 := by
  simp [List.getD_eq_getElem?_getD, List.getElem?_append, h]
theorem getD_app_right {a b : List UInt8} {n i : Nat} (h : a.length = n) : (a ++ b).getD (n + i) 0 = b.getD i 0 := by
  subst h; rw [List.getD_eq_getElem?_getD, List.getD_eq_getElem?_getD, List.getElem?_append_right (by omega), Nat.add_sub_cancel_left]

/-- The text of a mantissa and an exponent, as readFloat reads it. -/
theorem numeral_of (s : ByteArray) (sg eg : List UInt8) (u v : Nat) (hs : s.data.toList = sg ++ (decDigits u ++ (101 :: (eg ++ decDigits v)))) (hu : 1 ≤ u) (hu' : u ≤ 999999999999999) (hv : v ≤ 9999) :
    Numeral s sg.length (nDigits u) eg.length (nDigits v) (fun i => (s.data.toList.getD i 0).toNat) (preV u) (preV v) := by
  have hn15 : nDigits u ≤ 15 := nDigits_le u 15 (by omega) (by decide)
  have hm4 : nDigits v ≤ 4 := nDigits_le v 4 (by omega) (by decide)
  have hlu := decDigits_length u
  have hlv := decDigits_length v
  have hat : ∀ k, k < nDigits u → (s.data.toList.getD (sg.length + k) 0).toNat = 48 + u / 10 ^ (nDigits u - 1 - k) % 10 := fun k hk => by
    rw [hs, getD_app_right rfl, getD_app_left (by omega)]; exact decDigits_at u k hk
  have hat2 : ∀ k, k < nDigits v → (s.data.toList.getD (sg.length + nDigits u + 1 + eg.length + k) 0).toNat = 48 + v / 10 ^ (nDigits v - 1 - k) % 10 := fun k hk => by
    rw [hs, show sg.length + nDigits u + 1 + eg.length + k = sg.length + (nDigits u + (eg.length + k + 1)) by omega, getD_app_right rfl, getD_app_right hlu, List.getD_cons_succ, getD_app_right rfl]
    exact decDigits_at v k hk
  refine { byte := ?_, size := ?_, n1 := nDigits_pos u, n2 := hn15, m1 := nDigits_pos v, m2 := hm4, dig := ?_, fst := ?_, e := ?_, v0 := preV_zero u, v1 := ?_, v2 := fun k _ => Nat.le_trans (preV_le u k) hu', edig := ?_, w0 := preV_zero v, w1 := ?_, w2 := fun k _ => Nat.le_trans (preV_le v k) hv }
  · intro i h
    have h' : i < s.data.toList.length := h
    show (s[i]'h).toNat = (s.data.toList.getD i 0).toNat
    rw [List.getD_eq_getElem?_getD, List.getElem?_eq_getElem h']
    rfl
  · have : s.size = s.data.toList.length := rfl
    rw [this, hs]; simp only [List.length_append, List.length_cons]; omega
  · intro k hk
    show 48 ≤ (s.data.toList.getD (sg.length + k) 0).toNat ∧ (s.data.toList.getD (sg.length + k) 0).toNat ≤ 57
    rw [hat k hk]; omega
  · show (s.data.toList.getD sg.length 0).toNat ≠ 48
    have h0 := hat 0 (nDigits_pos u)
    rw [Nat.add_zero] at h0
    rw [h0, Nat.sub_zero]
    have a := nDigits_low u hu
    have b := lt_pow_nDigits u
    have hp := nDigits_pos u
    have c : u / 10 ^ (nDigits u - 1) < 10 := by
      rw [Nat.div_lt_iff_lt_mul (Nat.pow_pos (by decide))]
      calc u < 10 ^ nDigits u := b
        _ = 10 * 10 ^ (nDigits u - 1) := by rw [← Nat.pow_succ', show (nDigits u - 1).succ = nDigits u by omega]
    have d : 1 ≤ u / 10 ^ (nDigits u - 1) := (Nat.le_div_iff_mul_le (Nat.pow_pos (by decide))).2 (by omega)
    omega
  · show (s.data.toList.getD (sg.length + nDigits u) 0).toNat = 101
    rw [hs, getD_app_right rfl, show nDigits u = nDigits u + 0 from rfl, getD_app_right hlu]; rfl
  · intro k hk
    show preV u (k + 1) = preV u k * 10 + ((s.data.toList.getD (sg.length + k) 0).toNat - 48)
    rw [hat k hk, preV_succ u k hk]; omega
  · intro k hk
    show 48 ≤ (s.data.toList.getD (sg.length + nDigits u + 1 + eg.length + k) 0).toNat ∧ (s.data.toList.getD (sg.length + nDigits u + 1 + eg.length + k) 0).toNat ≤ 57
    rw [hat2 k hk]; omega
  · intro k hk
    show preV v (k + 1) = preV v k * 10 + ((s.data.toList.getD (sg.length + nDigits u + 1 + eg.length + k) 0).toNat - 48)
    rw [hat2 k hk, preV_succ v k hk]; omega
end Go.Proofs.YtkcipfmbkokfdaaGreatDoor

namespace Go.Proofs.YtkcipfmbkokfdaaGreatDoor
open Go.RowKit Go.Sort Go.Lib Ieee

/-- The text that float.Bits hands to the parser. -/
def numText (m x : Int) : ByteArray := ⟨(itoa m ++ (101 :: itoa x)).toArray⟩

theorem at_all (s : ByteArray) (d : Nat) (x : Int) (g : Bool) (w : World) (hd : 1 ≤ d) (hd' : d ≤ 999999999999999) (hx : -300 ≤ x) (hx' : x ≤ 290) (T : Tabs w)
    (hsp : ∀ w, Calls Tryz.prog 141 #[.string s] w fun e w' => e = .returned (.tuple #[.float .f64 0, .int .i64 0, .bool false]) ∧ w = w')
    (hrf : ∀ w, Calls Tryz.prog 142 #[.string s] w fun e w' => e = .returned (.tuple #[.int .u64 d, .int .i64 x, .bool g, .bool false, .bool false, .int .i64 s.size, .bool true]) ∧ w = w') :
    Calls Tryz.prog 133 #[.string s] w fun e w' => e = .returned (.tuple #[.float .f64 (double.word g (bitsD d x)), .int .i64 s.size, .nilIface]) ∧ Ext w w' := by
  unfold bitsD
  cases hok : exOK d x
  · obtain ⟨P, hP⟩ : ∃ P : Nat, x = (P : Int) - 348 := ⟨(x + 348).toNat, by omega⟩
    have hPt : (x + 348).toNat = P := by omega
    simp only [Bool.false_eq_true, if_false, hPt]
    have hpf := fun sg hs => pf64_walk d P sg w hd hd' (by omega) (by omega) hs T.size (T.hi P (by omega)) (T.lo P (by omega))
    rw [← hP] at hpf
    cases g
    · have := at_no s d x false w (0 + pfBits d P) 0 hd hx hx' T.opt (by decide) hsp hrf (ex_no d x false w hd hd' T hok) (hpf 0 (.inl rfl))
      rw [Nat.zero_add] at this
      exact this
    · exact at_no s d x true w (9223372036854775808 + pfBits d P) 9223372036854775808 hd hx hx' T.opt (by decide) hsp hrf (ex_no d x true w hd hd' T hok) (hpf 9223372036854775808 (.inr rfl))
  · simp only [if_true]
    exact at_yes s d x g w _ hd hx hx' T.opt hsp hrf (ex_yes d x g w hd hd' T hok)

theorem byte_at (s : ByteArray) (i : Nat) (h : i < s.size) : (s[i]'h).toNat = (s.data.toList.getD i 0).toNat := by
  have h' : i < s.data.toList.length := h
  rw [List.getD_eq_getElem?_getD, List.getElem?_eq_getElem h']
  rfl

theorem special_any (s : ByteArray) {a n z m : Nat} {B V W : Nat → Nat} (N : Numeral s a n z m B V W) (hz : z ≤ 1) (ha : a = 0 ∨ (a = 1 ∧ B 0 = 45)) (w : World) :
    Calls Tryz.prog 141 #[.string s] w fun e w' => e = .returned (.tuple #[.float .f64 0, .int .i64 0, .bool false]) ∧ w = w' := by
  have hsz := N.size
  have h1 := N.n1
  have h2 := N.n2
  have h3 := N.m2
  have h4 := N.m1
  have d0 := N.dig 0 (by omega)
  rcases ha with rfl | ⟨rfl, hB⟩
  · exact special_digit s w (B 0) (by omega) (by omega) (N.byte 0 (by omega)) (by simpa using d0.1) (by simpa using d0.2)
  · exact special_minus s w (B 1) (by omega) (by omega) ((N.byte 0 (by omega)).trans hB) (N.byte 1 (by omega)) (by simpa using d0.1) (by simpa using d0.2)

theorem at_text (m x : Int) (w : World) (hm : m ≠ 0) (h1 : -1000000000000000 < m) (h2 : m < 1000000000000000) (hx : -300 ≤ x) (hx' : x ≤ 290) (T : Tabs w) :
    Calls Tryz.prog 133 #[.string (numText m x)] w fun e w' => e = .returned (.tuple #[.float .f64 (double.word (decide (m < 0)) (bitsD m.natAbs x)), .int .i64 (numText m x).size, .nilIface]) ∧ Ext w w' := by
  have hu : 1 ≤ m.natAbs := by omega
  have hu' : m.natAbs ≤ 999999999999999 := by omega
  have hv : x.natAbs ≤ 9999 := by omega
  have hW : preV m.natAbs (nDigits m.natAbs) ≠ 0 := by rw [preV_all]; omega
  by_cases hm0 : m < 0 <;> by_cases hx0 : x < 0
  · have hs : (numText m x).data.toList = [45] ++ (decDigits m.natAbs ++ (101 :: ([45] ++ decDigits x.natAbs))) := by
      unfold numText itoa; rw [if_pos hm0, if_pos hx0]; simp
    have N := numeral_of _ [45] [45] m.natAbs x.natAbs hs hu hu' hv
    have hB : (fun i => ((numText m x).data.toList.getD i 0).toNat) 0 = 45 := by simp only [hs]; rfl
    have hE : (fun i => ((numText m x).data.toList.getD i 0).toNat) (1 + nDigits m.natAbs + 1) = 45 := by
      simp only [hs]
      rw [show 1 + nDigits m.natAbs + 1 = [(45 : UInt8)].length + (nDigits m.natAbs + 1) by simp; omega, getD_app_right rfl, getD_app_right (decDigits_length _)]; rfl
    rw [decide_eq_true hm0]
    refine at_all _ m.natAbs x true w hu hu' hx hx' T (fun w => special_any _ N (by decide) (.inr ⟨rfl, hB⟩) w) (fun w => ?_)
    have := rf_walk11 _ _ _ _ _ _ w N hW hB hE
    rw [preV_all, preV_all, show -((x.natAbs : Nat) : Int) = x by omega] at this
    exact this
  · have hs : (numText m x).data.toList = [45] ++ (decDigits m.natAbs ++ (101 :: ([] ++ decDigits x.natAbs))) := by
      unfold numText itoa; rw [if_pos hm0, if_neg hx0, show x.toNat = x.natAbs by omega]; simp
    have N := numeral_of _ [45] [] m.natAbs x.natAbs hs hu hu' hv
    have hB : (fun i => ((numText m x).data.toList.getD i 0).toNat) 0 = 45 := by simp only [hs]; rfl
    rw [decide_eq_true hm0]
    refine at_all _ m.natAbs x true w hu hu' hx hx' T (fun w => special_any _ N (by decide) (.inr ⟨rfl, hB⟩) w) (fun w => ?_)
    have := rf_walk10 _ _ _ _ _ _ w N hW hB
    rw [preV_all, preV_all, show ((x.natAbs : Nat) : Int) = x by omega] at this
    exact this
  · have hs : (numText m x).data.toList = [] ++ (decDigits m.natAbs ++ (101 :: ([45] ++ decDigits x.natAbs))) := by
      unfold numText itoa; rw [if_neg hm0, if_pos hx0, show m.toNat = m.natAbs by omega]; simp
    have N := numeral_of _ [] [45] m.natAbs x.natAbs hs hu hu' hv
    have hE : (fun i => ((numText m x).data.toList.getD i 0).toNat) (0 + nDigits m.natAbs + 1) = 45 := by
      simp only [hs]
      rw [List.nil_append, Nat.zero_add, getD_app_right (decDigits_length _)]; rfl
    rw [decide_eq_false hm0]
    refine at_all _ m.natAbs x false w hu hu' hx hx' T (fun w => special_any _ N (by decide) (.inl rfl) w) (fun w => ?_)
    have := rf_walk01 _ _ _ _ _ _ w N hW hE
    rw [preV_all, preV_all, show -((x.natAbs : Nat) : Int) = x by omega] at this
    exact this
  · have hs : (numText m x).data.toList = [] ++ (decDigits m.natAbs ++ (101 :: ([] ++ decDigits x.natAbs))) := by
      unfold numText itoa; rw [if_neg hm0, if_neg hx0, show m.toNat = m.natAbs by omega, show x.toNat = x.natAbs by omega]; simp
    have N := numeral_of _ [] [] m.natAbs x.natAbs hs hu hu' hv
    rw [decide_eq_false hm0]
    refine at_all _ m.natAbs x false w hu hu' hx hx' T (fun w => special_any _ N (by decide) (.inl rfl) w) (fun w => ?_)
    have := rf_walk00 _ _ _ _ _ _ w N hW
    rw [preV_all, preV_all, show ((x.natAbs : Nat) : Int) = x by omega] at this
    exact this
end Go.Proofs.YtkcipfmbkokfdaaGreatDoor
