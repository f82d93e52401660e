/- A drawn region that ends by a store into its own new block, where one of its first facts speaks of the world. -/
import Derived.Test.YtihebflgceljfaaDoorLate
set_option linter.unusedVariables false
set_option linter.unusedSimpArgs false
namespace Go.Proofs.YtihebflgceljfaaDoor
open Go.RowKit
/-- Nothing is said. -/
def Tr : Fact := fun _ _ => True
def AllFreeBut : Nat → List Fact → Prop
  | _, [] => True
  | 0, R :: Rs => MonoFact R ∧ AllFree Rs
  | k + 1, R :: Rs => FreeFact R ∧ AllFreeBut k Rs
theorem freeBut_at : ∀ {L : List Fact} {k : Nat} (h : AllFreeBut k L) (x y : Fact) (j : Nat), j < L.length → ∀ v w w', factAt (L ++ [x]) j v w → factAt (L.set k Tr ++ [y]) j v w'
  | [], k, h, x, y, j, hj, v, w, w', hf => by simp at hj
  | R :: L, 0, h, x, y, 0, hj, v, w, w', hf => trivial
  | R :: L, 0, h, x, y, j + 1, hj, v, w, w', hf => free_at h.2 x y j (by simpa using hj) v w w' hf
  | R :: L, k + 1, h, x, y, 0, hj, v, w, w', hf => h.1 _ _ _ hf
  | R :: L, k + 1, h, x, y, j + 1, hj, v, w, w', hf => freeBut_at h.2 x y j (by simpa using hj) v w w' hf
theorem freeBut_mono : ∀ {L : List Fact} {k : Nat} (h : AllFreeBut k L) {x : Fact} (hx : MonoFact x) (j : Nat) v w w', factAt (L ++ [x]) j v w → Keep w w' → factAt (L ++ [x]) j v w'
  | [], k, h, x, hx, j, v, w, w', hf, hk => free_mono (L := []) trivial hx j v w w' hf hk
  | R :: L, 0, h, x, hx, 0, v, w, w', hf, hk => h.1 _ _ _ hf hk
  | R :: L, 0, h, x, hx, j + 1, v, w, w', hf, hk => free_mono h.2 hx j v w w' hf hk
  | R :: L, k + 1, h, x, hx, 0, v, w, w', hf, hk => h.1 _ _ _ hf
  | R :: L, k + 1, h, x, hx, j + 1, v, w, w', hf, hk => freeBut_mono h.2 hx j v w w' hf hk
theorem freeBut_set : ∀ {L : List Fact} {k : Nat}, AllFreeBut k L → AllFree (L.set k Tr)
  | [], k, h => by simp [AllFree]
  | R :: L, 0, h => ⟨fun _ _ _ _ => trivial, h.2⟩
  | R :: L, k + 1, h => ⟨h.1, freeBut_set h.2⟩
theorem wp_region_lateW {P : Program} {id : Nat} {l : List Oper} {a : Act} {w : World} {Q : Exit → Act → World → Prop} (n late k : Nat) (L : List Fact) (x y : Fact) (hm : P.follows .mixedOrders = true) (hB : lateB a.tmps.size l.toArray n late = true)
    (hlen : L.length + 1 = n) (hlate0 : late < L.length) (hL : AllFreeBut k L) (hx : MonoFact x) (hy : MonoFact y)
    (steps : Steps1 P w (fun v => putAll v 0 (l.take n) a) (L ++ [x]) 0 (l.take n))
    (hstore : ∀ v w', Keep w w' → (∀ j, j < n → j ≠ late → factAt (L ++ [x]) j (v j) w') → ∀ o, l[n]? = some o → Gives P o (putAll v 0 (l.take n) a) w' (fun _ w'' => Keep w w'' ∧ y (v L.length) w''))
    (hlate : ∀ v w', Keep w w' → (∀ j, j < n → j ≠ late → factAt (L.set k Tr ++ [y]) j (v j) w') → ∀ o, l[late]? = some o → Gives P o (putAll v 0 (l.take n) a) w' (fun u w'' => Keep w' w'' ∧ factAt (L.set k Tr ++ [y]) late u w''))
    (tail : ∀ v w', Keep w w' → Held (L.set k Tr ++ [y]) v w' n → wpList P l.toArray Q (l.drop (n + 1)) (putAll v 0 (l.take n) a) w') : (Code.region id l.toArray true).wp P Q a w := by
  simp only [lateB, Bool.and_eq_true, decide_eq_true_eq] at hB
  obtain ⟨⟨⟨⟨⟨⟨⟨⟨⟨hln, hn1⟩, hS⟩, hG⟩, hE⟩, hD⟩, hK⟩, hC⟩, hN⟩, hO⟩ := hB
  have kd : Keep w { w with drawn := w.drawn + 1 } := ⟨⟨rfl, rfl, rfl, Nat.le_refl _, fun _ _ => rfl⟩⟩
  have ho : l.toArray[n]? = some l.toArray[n] := by simp [show n < l.toArray.size by omega]
  have ho1 : l.toArray[n + 1]? = some l.toArray[n + 1] := by simp [hn1]
  rw [ho] at hN
  rw [ho1] at hO
  have hnd : l.toArray[n].dst = none := by simpa using hN
  have hfree := freeBut_at hL x y
  refine wp_region_any hm (late_head (W0 := w) (a0 := a) (Rs := L ++ [x]) (Rt := L.set k Tr ++ [y]) hn1 hln hS hG hE hD hK hC ho hnd ho1 hO (freeBut_mono hL hx) (free_mono (freeBut_set hL) hy) steps ?_ ?_ ?_ (fun v w' hk hf => tail v w' hk (held_of hf)) _ _ _ _ ?_ ?_)
  · intro v w' hk hf
    have h := hstore v w' hk hf _ (by rw [← List.getElem?_toArray]; exact ho)
    refine ⟨?_⟩
    have h := h.out
    revert h
    generalize (execOp (Act.eval (putAll v 0 (l.toArray.toList.take n) a)) l.toArray[n]).run P w' = r
    intro h
    have up : ∀ w'', Keep w w'' ∧ y (v L.length) w'' → Keep w w'' ∧ ∀ j, j < n → j ≠ late → factAt (L.set k Tr ++ [y]) j (v j) w'' := fun w'' ⟨h1, h2⟩ => ⟨h1, fun j hj hjl => by
      rcases Nat.lt_or_ge j L.length with h3 | h3
      · exact hfree j h3 _ _ _ (hf j hj hjl)
      · have : j = L.length := by omega
        subst this
        simpa [factAt] using h2⟩
    cases r with
    | ok nx w'' =>
      cases nx <;> simp only [givesUpon] at h ⊢
      case value u => exact up _ h
      case skip => exact up _ h
      case enter f args => exact h.mono fun e w3 ⟨u, he, hg⟩ => ⟨u, he, up _ hg⟩
    | halt x w' => simp only [givesUpon] at h
  · intro v w' hk hf o ho2
    exact hlate v w' hk hf o (by rw [← List.getElem?_toArray]; simpa using ho2)
  · exact fun u w w' h => hfree late hlate0 u w w' h
  · refine ⟨by simp, fun t _ => ?_, kd, rfl, rfl, fun _ _ => rfl, fun j o d hj ho hd hl => ?_, fun k p hk hp hl => ?_⟩
    · exact getD_rep _ t
    · rw [getD_rep] at hl; cases hl
    · rw [getD_rep] at hl; cases hl
  · have := List.length_filter_le (fun j => !(Array.replicate l.toArray.size false).getD j false) (List.range n)
    simp at this hn1 ⊢
    omega
end Go.Proofs.YtihebflgceljfaaDoor
