/- The holes of a digit; the reference's code at every kind. -/
import Derived.Test.YtbgegnbcjklmjaaDoorE3
set_option linter.unusedVariables false
set_option linter.unusedSimpArgs false
namespace Go.Proofs.YtbgegnbcjklmjaaDoor
open Go.RowKit
set_option maxHeartbeats 4000000
set_option maxRecDepth 20000
theorem spec_l01Code (s : ByteArray) (k st sz v : Int) (g o : Nat) (w : World) (hz : okSz k sz) (h0 : 0 ≤ st) (h2 : st + widthN k sz ≤ 96) (v0 : 0 ≤ v) (v1 : v ≤ mostN k sz)
    (c0 : w.cell? ⟨g, o, none⟩ = some (.string s)) (c1 : w.cell? ⟨g, o + 1, none⟩ = some (.int .i8 k)) (c2 : w.cell? ⟨g, o + 2, none⟩ = some (.int .i16 st)) (c3 : w.cell? ⟨g, o + 3, none⟩ = some (.int .i16 sz)) :
    Calls Tryd.prog 69 #[.pointer (some ⟨g, o, none⟩), .int .i64 v] w fun e w' => e = .returned (.agg #[.int .u64 (U (encLo k st sz v)), .int .u64 (U (encHi k st sz v))]) ∧ Keep w w' := by
  have vb := valB hz v1
  obtain ⟨z1, z2⟩ := hz
  rcases z2 with ⟨rfl, z2⟩ | ⟨rfl, z2⟩ | ⟨rfl, z2⟩ | ⟨rfl, z2⟩
  · rw [encLo_0, encHi_0]
    simp [mostN] at v1
    simp [widthN] at h2
    exact spec_l01Code_0 s st sz v g o w ⟨z1, z2⟩ h0 h2 v0 (by omega) c0 c1 c2 c3
  · rw [encLo_d (.inl rfl), encHi_d (.inl rfl)]
    simp [widthN] at h2
    exact spec_l01Code_1 s st sz v g o w ⟨z1, z2⟩ h0 h2 v0 vb c0 c1 c2 c3
  · rw [encLo_d (.inr rfl), encHi_d (.inr rfl)]
    simp [widthN] at h2
    exact spec_l01Code_2 s st sz v g o w ⟨z1, z2⟩ h0 h2 v0 vb c0 c1 c2 c3
  · simp [widthN] at h2
    exact spec_l01Code_3 s st sz v g o w ⟨z1, z2⟩ h0 (by omega) v0 vb c0 c1 c2 c3
theorem Bx.new' {w : World} {g : Nat} {cs : Array Value} {T : TypeId} (h : g = w.heap.size) : Bx (w.alloc (.cells cs T)) g cs T := by subst h; exact Bx.new _ _ _
theorem Bx.rd {w : World} {g : Nat} {l : List Int} {T : TypeId} (h : Bx w g (ints l).toArray T) : Rd w (some ⟨g, 0, none⟩) (ints l) :=
  .inr ⟨g, 0, rfl, fun j v hj => by rw [h.cell]; simpa using hj⟩
theorem idx10 (cs : Array Value) (i : Int) (w : World) (hcs : cs.size = 10) (h0 : 0 ≤ i) (h1 : i < 10) : (Instr.index 100 (.agg cs) (.int .i64 i)).run Tryd.prog w = .ok ((cs[i.toNat]?).getD undef) w := by
  have hn : 0 ≤ (i : Int) ∧ (i : Int) < ((10 : Nat) : Int) := by omega
  obtain ⟨n, rfl⟩ := Int.eq_ofNat_of_zero_le h0
  have hl : n < 10 := by omega
  have hl2 : n < cs.size := by omega
  simp [Instr.index, run_underlying Tryd.underlying100, asIntOf, hn, go_sem, hl, hl2]
theorem impl_digitHoles (s : ByteArray) (k st sz d : Int) (w : World) (hk : k = 1 ∨ k = 2) (hd : 0 ≤ d ∧ d < 10) :
    Calls Tryd.prog 90 #[.agg #[.string s, .int .i8 k, .int .i16 st, .int .i16 sz], .int .i64 d] w fun e w' => ∃ g n, e = .returned (.slice (some ⟨g, 0, none⟩) n n) ∧ n = (dhs k d).length ∧ Bx w' g (ints (dhs k d)).toArray 2 ∧ w.heap.size ≤ g ∧ Keep w w' := by
  have hd1 := hd.1
  have hd2 := hd.2
  have hx := fun cs w hcs => idx10 cs d w hcs hd1 hd2
  rcases hk with rfl | rfl
  all_goals
    go_enter Tryd.func90, Tryd.ntmps90
    go_wp2
    go_ret
    clear hx
    rcases ten hd with rfl | rfl | rfl | rfl | rfl | rfl | rfl | rfl | rfl | rfl
    all_goals
      refine ⟨_, _, rfl, rfl, ?_, ?_, (by ((repeat (first | (with_reducible assumption) | ((with_reducible refine Keep.setCell ?_ ?_ _); rotate_left; focus (first | omega | (simp; done) | (simp; omega))) | (with_reducible refine Keep.alloc ?_ _) | (with_reducible refine Keep.drewN ?_ _) | (with_reducible refine Keep.drew ?_) | (with_reducible exact Keep.refl _) | refine Keep.trans ?_ (by with_reducible assumption) | exact Keep.refl _ | assumption))))⟩
      focus
        simp only [dhs, ints]
        repeat (first | (refine Bx.new' (by simp; done)) | refine Bx.alloc ?_ _)
      focus omega
end Go.Proofs.YtbgegnbcjklmjaaDoor
