/- Codes of values: plain facts. -/
import Derived.Test.YtbgegnbcjklmjaaDoorN5
import Derived.Test.YtbgegnbcjklmjaaDoorPop
set_option linter.unusedVariables false
set_option linter.unusedSimpArgs false
namespace Go.Proofs.YtbgegnbcjklmjaaDoor
open Go.RowKit
/-- The notches of a digit, as a number. -/
def dcode (k d : Int) : Int := if k = 2 then ([24, 20, 18, 17, 12, 10, 9, 6, 5, 3] : List Int).getD d.toNat 0 else ([12, 1, 2, 3, 4, 5, 6, 8, 9, 10] : List Int).getD d.toNat 0
/-- The notches of a digit, as a list. -/
def dhs (k d : Int) : List Int := if k = 1 then ([[0, 1], [3], [2], [2, 3], [1], [1, 3], [1, 2], [0], [0, 3], [0, 2]] : List (List Int)).getD d.toNat []
  else ([[0, 1], [0, 2], [0, 3], [0, 4], [1, 2], [1, 3], [1, 4], [2, 3], [2, 4], [3, 4]] : List (List Int)).getD d.toNat []
def wdt (k : Int) : Int := if k = 2 then 5 else 4
def ntB (h b : Int) (k : Nat) : Bool := decide (b / pw 2 (h - 1 - k).toNat % 2 = 1)
def nLo (a : Wd) (p h b : Int) : Nat → Wd
  | 0 => a
  | k + 1 => cond (ntB h b k) (nLo a p h b k ||| bitLo (p + k)) (nLo a p h b k)
def nHi (a : Wd) (p h b : Int) : Nat → Wd
  | 0 => a
  | k + 1 => cond (ntB h b k) (nHi a p h b k ||| bitHi (p + k)) (nHi a p h b k)
theorem nLo_yes {a : Wd} {p h b : Int} {k : Nat} (hb : ntB h b k = true) : nLo a p h b (k + 1) = nLo a p h b k ||| bitLo (p + k) := by simp [nLo, hb]
theorem nHi_yes {a : Wd} {p h b : Int} {k : Nat} (hb : ntB h b k = true) : nHi a p h b (k + 1) = nHi a p h b k ||| bitHi (p + k) := by simp [nHi, hb]
theorem nLo_no {a : Wd} {p h b : Int} {k : Nat} (hb : ntB h b k = false) : nLo a p h b (k + 1) = nLo a p h b k := by simp [nLo, hb]
theorem nHi_no {a : Wd} {p h b : Int} {k : Nat} (hb : ntB h b k = false) : nHi a p h b (k + 1) = nHi a p h b k := by simp [nHi, hb]
theorem nLo_zero (a : Wd) (p h b : Int) : nLo a p h b 0 = a := rfl
theorem nHi_zero (a : Wd) (p h b : Int) : nHi a p h b 0 = a := rfl
theorem nLo_or (a : Wd) (p h b : Int) (n : Nat) : nLo a p h b n = a ||| nLo 0#64 p h b n := by
  induction n with
  | zero => simp [nLo]
  | succ n ih =>
    cases hb : ntB h b n
    · rw [nLo_no hb, nLo_no hb, ih]
    · rw [nLo_yes hb, nLo_yes hb, ih, BitVec.or_assoc]
theorem nHi_or (a : Wd) (p h b : Int) (n : Nat) : nHi a p h b n = a ||| nHi 0#64 p h b n := by
  induction n with
  | zero => simp [nHi]
  | succ n ih =>
    cases hb : ntB h b n
    · rw [nHi_no hb, nHi_no hb, ih]
    · rw [nHi_yes hb, nHi_yes hb, ih, BitVec.or_assoc]
/-- The digits of a value, the highest one first. -/
def dgt (v sz : Int) (i : Nat) : Int := v / pw 10 (sz - 1 - i).toNat % 10
def eLo (k st sz v : Int) : Nat → Wd
  | 0 => 0#64
  | i + 1 => nLo (eLo k st sz v i) (st + wdt k * i) (wdt k) (dcode k (dgt v sz i)) (wdt k).toNat
def eHi (k st sz v : Int) : Nat → Wd
  | 0 => 0#64
  | i + 1 => nHi (eHi k st sz v i) (st + wdt k * i) (wdt k) (dcode k (dgt v sz i)) (wdt k).toNat
theorem eLo_succ (k st sz v : Int) (i : Nat) : eLo k st sz v (i + 1) = nLo (eLo k st sz v i) (st + wdt k * i) (wdt k) (dcode k (dgt v sz i)) (wdt k).toNat := rfl
theorem eHi_succ (k st sz v : Int) (i : Nat) : eHi k st sz v (i + 1) = nHi (eHi k st sz v i) (st + wdt k * i) (wdt k) (dcode k (dgt v sz i)) (wdt k).toNat := rfl
theorem eLo_zero (k st sz v : Int) : eLo k st sz v 0 = 0#64 := rfl
theorem eHi_zero (k st sz v : Int) : eHi k st sz v 0 = 0#64 := rfl
def binLo (st sz v : Int) : Wd := nLo 0#64 st sz v sz.toNat
def binHi (st sz v : Int) : Wd := nHi 0#64 st sz v sz.toNat
def evenB (a b : Wd) : Bool := decide ((pc a + pc b) % 2 = 0)
def encLo (k st sz v : Int) : Wd := if k = 0 then bitLo (st + v) else if k = 3 then cond (evenB (binLo st sz v) (binHi st sz v)) (binLo st sz v ||| bitLo (st + sz)) (binLo st sz v) else eLo k st sz v sz.toNat
def encHi (k st sz v : Int) : Wd := if k = 0 then bitHi (st + v) else if k = 3 then cond (evenB (binLo st sz v) (binHi st sz v)) (binHi st sz v ||| bitHi (st + sz)) (binHi st sz v) else eHi k st sz v sz.toNat
theorem dgt_range (v sz : Int) (i : Nat) : 0 ≤ dgt v sz i ∧ dgt v sz i < 10 := by unfold dgt; omega
theorem ten {d : Int} (h : 0 ≤ d ∧ d < 10) : d = 0 ∨ d = 1 ∨ d = 2 ∨ d = 3 ∨ d = 4 ∨ d = 5 ∨ d = 6 ∨ d = 7 ∨ d = 8 ∨ d = 9 := by omega
theorem dcode_range {k d : Int} (hk : k = 1 ∨ k = 2) (h : 0 ≤ d ∧ d < 10) : 0 ≤ dcode k d ∧ dcode k d ≤ 24 := by
  rcases hk with rfl | rfl <;> rcases ten h with rfl | rfl | rfl | rfl | rfl | rfl | rfl | rfl | rfl | rfl <;> decide
/-- A list's holes from a place on. -/
def atP (p : Int) (l : List Int) : List Int := l.map (p + ·)
theorem nLo_dhs (a : Wd) (p : Int) {k d : Int} (hk : k = 1 ∨ k = 2) (h : 0 ≤ d ∧ d < 10) : orLo a (atP p (dhs k d)) = nLo a p (wdt k) (dcode k d) (wdt k).toNat := by
  have p2 : pw 2 0 = 1 ∧ pw 2 1 = 2 ∧ pw 2 2 = 4 ∧ pw 2 3 = 8 ∧ pw 2 4 = 16 := by decide
  rcases hk with rfl | rfl <;> rcases ten h with rfl | rfl | rfl | rfl | rfl | rfl | rfl | rfl | rfl | rfl <;> simp [orLo, atP, dhs, wdt, dcode, nLo, ntB, p2]
theorem nHi_dhs (a : Wd) (p : Int) {k d : Int} (hk : k = 1 ∨ k = 2) (h : 0 ≤ d ∧ d < 10) : orHi a (atP p (dhs k d)) = nHi a p (wdt k) (dcode k d) (wdt k).toNat := by
  have p2 : pw 2 0 = 1 ∧ pw 2 1 = 2 ∧ pw 2 2 = 4 ∧ pw 2 3 = 8 ∧ pw 2 4 = 16 := by decide
  rcases hk with rfl | rfl <;> rcases ten h with rfl | rfl | rfl | rfl | rfl | rfl | rfl | rfl | rfl | rfl <;> simp [orHi, atP, dhs, wdt, dcode, nHi, ntB, p2]
/-- One digit more from behind: what is still to come joins it. -/
theorem eLo_back {n : Nat} {k st sz v : Int} {m : Wd} {r : Nat} (h : m ||| eLo k st sz v (r + 1) = eLo k st sz v n) :
    nLo m (st + wdt k * r) (wdt k) (dcode k (dgt v sz r)) (wdt k).toNat ||| eLo k st sz v r = eLo k st sz v n := by
  rw [← h, eLo_succ, nLo_or m, nLo_or (eLo k st sz v r)]
  rw [BitVec.or_assoc, BitVec.or_comm (nLo 0#64 _ _ _ _) (eLo k st sz v r)]
theorem eHi_back {n : Nat} {k st sz v : Int} {m : Wd} {r : Nat} (h : m ||| eHi k st sz v (r + 1) = eHi k st sz v n) :
    nHi m (st + wdt k * r) (wdt k) (dcode k (dgt v sz r)) (wdt k).toNat ||| eHi k st sz v r = eHi k st sz v n := by
  rw [← h, eHi_succ, nHi_or m, nHi_or (eHi k st sz v r)]
  rw [BitVec.or_assoc, BitVec.or_comm (nHi 0#64 _ _ _ _) (eHi k st sz v r)]
end Go.Proofs.YtbgegnbcjklmjaaDoor
