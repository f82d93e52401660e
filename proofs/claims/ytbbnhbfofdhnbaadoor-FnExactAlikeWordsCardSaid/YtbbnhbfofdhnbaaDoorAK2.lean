/- Words with the same holes: the reference's walk. -/
import Derived.Test.YtbbnhbfofdhnbaaDoorAK
set_option linter.unusedVariables false
set_option linter.unusedSimpArgs false
namespace Go.Proofs.YtbbnhbfofdhnbaaDoor
open Go.RowKit
set_option maxHeartbeats 2000000
set_option maxRecDepth 20000
theorem spec_AlikeWords (s z p : Int) (A : Option Addr) (l : List ByteArray) (c : Nat) (T : List UInt8 → Nat) (w : World) (hw : I16 s ∧ I16 z ∧ I16 p) (hm : l.length ≤ 9223372036854775807) (hz : Szs l) (hR : Rd w A (strs l)) (hT : MTim s z p T) :
    Calls Tryd.prog 20 #[.agg #[.int .i16 s, .int .i16 z, .int .i16 p], .slice A l.length c] w fun e w' => ∃ v, e = .returned (.tuple #[v, .int .i64 (alE s z p l)]) ∧ w'.ownsRow w.heap.size 70 2 v (alL s z p T l).length (prs (alL s z p T l)) ∧ Keep w w' := by
  have hB : Bx (w.alloc (.cells #[.int .i16 s, .int .i16 z, .int .i16 p] 42)) w.heap.size #[.int .i16 s, .int .i16 z, .int .i16 p] 42 := Bx.new _ _ _
  have HX := Aside.mk (hB.alloc (.cells #[] 50))
  have hJ : ∀ W g, Rd W A (strs l) → Bx W w.heap.size #[.int .i16 s, .int .i16 z, .int .i16 p] 42 → Calls Tryd.prog 52 #[.pointer (some ⟨w.heap.size, 0, none⟩), .slice (some ⟨g, 0, none⟩) 0 0, .slice A l.length c, .int .i64 40] W fun e w' => e = .returned (.int .i64 (alE s z p l)) ∧ Keep W w' :=
    fun W g h hX => by
      obtain ⟨b0, b1, b2, _⟩ := hX.three
      exact spec_l03Asked0 s z p w.heap.size 0 (some ⟨g, 0, none⟩) 0 A l c 40 W hw hm hz h b0 b1 b2
  clear hB
  rcases alE_cases s z p l with ⟨h0, h1, h2, h40⟩ | ⟨h0, h1⟩
  · rw [alL_yes h0, h0]
    rw [h0] at hJ
    have hmf := mix_facts h1
    obtain ⟨m1, m2, m3, m4⟩ : 0 ≤ s ∧ 1 ≤ z ∧ s + z ≤ 96 ∧ (0 ≤ p ∧ p ≤ 96) := ⟨hmf.1, by omega, hmf.2.2.1, by omega, by omega⟩
    have HT := Aside.mk (hT h1)
    unfold akAll
    clear hT hmf
    obtain ⟨i0, hi0, hz0, hz1, hz2⟩ := info_parts pairE_info
    go_enter Tryd.func20, Tryd.ntmps20
    (go_wp2_with fail); (go_at_call 52); (refine (hJ _ _ (hR.keep (((Keep.refl w).alloc _).alloc _)) HX.out).mono ?_); rintro e w2 ⟨rfl, hk2⟩
    have hX := HX.out.keep hk2
    have kk : Keep w w2 := (by ((repeat (first | (with_reducible assumption) | ((with_reducible refine Keep.setCell ?_ ?_ _); rotate_left; focus (first | omega | (simp; done) | (simp; omega))) | (with_reducible refine Keep.alloc ?_ _) | (with_reducible refine Keep.drewN ?_ _) | (with_reducible refine Keep.drew ?_) | (with_reducible exact Keep.refl _) | refine Keep.trans ?_ (by with_reducible assumption) | exact Keep.refl _ | assumption))))
    clear hk2 HX hJ
    go_wp2_with fail
    go_loopg [7, 8] l.length (fun k s6 s19 wr => ∃ (i : Nat) (v6 : Value), i + k = l.length ∧ s19 = .int .i64 i ∧ s6 = v6 ∧ wr.ownsRow (w.heap.size + 1) 70 2 v6 (akL (akP s z T l) l.length i).length (prs (akL (akP s z T l) l.length i)) ∧ Bx wr w.heap.size #[.int .i16 s, .int .i16 z, .int .i16 p] 42 ∧ Keep w wr)
    case atStart => exact ⟨0, _, by omega, rfl, rfl, own_emptyP w2 _ (by have := hX.lt; omega), hX.alloc _, (by ((repeat (first | (with_reducible assumption) | ((with_reducible refine Keep.setCell ?_ ?_ _); rotate_left; focus (first | omega | (simp; done) | (simp; omega))) | (with_reducible refine Keep.alloc ?_ _) | (with_reducible refine Keep.drewN ?_ _) | (with_reducible refine Keep.drew ?_) | (with_reducible exact Keep.refl _) | refine Keep.trans ?_ (by with_reducible assumption) | exact Keep.refl _ | assumption))))⟩
    case round =>
      obtain ⟨i, v6, hi, rfl, hv6, hown, hX0, hk0⟩ := hrel
      obtain rfl := hv6.symm
      have HO0 := Aside.mk hown
      have HX0 := Aside.mk hX0
      clear hown hX hX0
      by_cases hlt : i < l.length
      · obtain ⟨bi, oi, hA, hci⟩ := (hR.keep hk0).at (k := i) (by rw [strs_len]; exact hlt)
        have HCI := Aside.mk (strs_at l i hlt)
        have hzi := hz l[i] (List.getElem_mem hlt)
        have HD := Aside.mk (fun k (hk : k < l.length) => akP_at s z T hlt hk)
        have hwi := fun W h1 h2 h3 => spec_l03Holes s z p l[i] (T l[i].data.toList) w.heap.size 0 W hzi m1 m2 m3 m4 (HT.out _) h1 h2 h3
        rw [show whLo s z (chk l[i].data.toList) (T l[i].data.toList) = wLo s z T l[i] from rfl, show whHi s z (chk l[i].data.toList) (T l[i].data.toList) = wHi s z T l[i] from rfl] at hwi
        have hWI := Aside.mk hwi
        have hal := akL_len (akP s z T l) l.length i
        have HST := Aside.mk (akR_start (akP s z T l) i (i + 1) (Nat.le_refl _))
        have HNX := Aside.mk (show akL (akP s z T l) l.length (i + 1) = akL (akP s z T l) l.length i ++ akR (akP s z T l) i l.length from rfl)
        subst hA
        clear hci hzi hwi
        generalize wLo s z T l[i] = a1 at *
        generalize wHi s z T l[i] = b1 at *
        generalize l[i] = x at *
        generalize akL (akP s z T l) l.length i = L0 at *
        go_wp2_with fail
        go_loopg [7, 9] (l.length - (i + 1)) (fun k2 s6 s9 wq => ∃ (j : Nat) (u6 : Value), j + k2 = l.length ∧ i + 1 ≤ j ∧ s9 = .int .i64 j ∧ s6 = u6 ∧ wq.ownsRow (w.heap.size + 1) 70 2 u6 (L0 ++ akR (akP s z T l) i j).length (prs (L0 ++ akR (akP s z T l) i j)) ∧ Bx wq w.heap.size #[.int .i16 s, .int .i16 z, .int .i16 p] 42 ∧ Keep w wq)
        case atStart => exact ⟨i + 1, _, by omega, Nat.le_refl _, by go_num, rfl, by rw [HST.out, List.append_nil]; exact HO0.out, HX0.out, (by ((repeat (first | (with_reducible assumption) | ((with_reducible refine Keep.setCell ?_ ?_ _); rotate_left; focus (first | omega | (simp; done) | (simp; omega))) | (with_reducible refine Keep.alloc ?_ _) | (with_reducible refine Keep.drewN ?_ _) | (with_reducible refine Keep.drew ?_) | (with_reducible exact Keep.refl _) | refine Keep.trans ?_ (by with_reducible assumption) | exact Keep.refl _ | assumption))))⟩
        case round =>
          obtain ⟨j, u6, hj, hij, rfl, hu6, hown2, hXq, hkq⟩ := hrel
          obtain rfl := hu6.symm
          have HOq := Aside.mk hown2
          clear hown2
          by_cases hjl : j < l.length
          · obtain ⟨b2, o2, e2, hc2⟩ := (hR.keep hkq).at (k := j) (by rw [strs_len]; exact hjl)
            obtain ⟨rfl, rfl⟩ : bi = b2 ∧ oi = o2 := by simpa using e2
            have p0 := hc2 i _ HCI.out
            have p1 := hc2 j _ (strs_at l j hjl)
            have hzj := hz l[j] (List.getElem_mem hjl)
            have HDj := Aside.mk (HD.out j hjl)
            have hwj := fun W h1 h2 h3 => spec_l03Holes s z p l[j] (T l[j].data.toList) w.heap.size 0 W hzj m1 m2 m3 m4 (HT.out _) h1 h2 h3
            rw [show whLo s z (chk l[j].data.toList) (T l[j].data.toList) = wLo s z T l[j] from rfl, show whHi s z (chk l[j].data.toList) (T l[j].data.toList) = wHi s z T l[j] from rfl] at hwj
            have hWJ := Aside.mk hwj
            have HY := Aside.mk (fun h => akR_yes (p := akP s z T l) (i := i) (m := j) (by omega) h)
            have HN := Aside.mk (fun h => akR_no (p := akP s z T l) (i := i) (m := j) h)
            have har := akR_len (akP s z T l) i j
            clear hc2 hzj hwj e2
            generalize wLo s z T l[j] = a2 at *
            generalize wHi s z T l[j] = b2 at *
            generalize l[j] = y at *
            go_wp2_with fail
            refine wp_region_keep (by kernel_rfl) (by kernel_rfl) ?_
            repeat
              first
                | (apply QuietL.run
                   focus go_simp
                   focus
                     intro w2 hk
                     have p0' := hk.cell p0
                     have p1' := hk.cell p1
                     obtain ⟨hXq_0, hXq_1, hXq_2, hXq_3, hXq_4, hXq_5, hXq_6⟩ := (hXq.keep hk).three
                     apply QAt.mk
                     go_simp
                     first
                       | done
                       | exact rfl
                       | (go_at_call 53; with_reducible exact quiet_call hk (hWI.out _ hXq_0 hXq_1 hXq_2))
                       | (go_at_call 53; with_reducible exact quiet_call hk (hWJ.out _ hXq_0 hXq_1 hXq_2))
                   simp only [Act.put, List.setIfInBounds_toArray, List.set_cons_succ, List.set_cons_zero])
                | (apply QuietL.skip
                   focus go_simp
                   simp only [Act.put, List.setIfInBounds_toArray, List.set_cons_succ, List.set_cons_zero])
            apply QuietL.nil
            intro w2 hk
            have p0' := hk.cell p0
            have p1' := hk.cell p1
            have hXq := hXq.keep hk
            obtain ⟨hXq_0, hXq_1, hXq_2, hXq_3, hXq_4, hXq_5, hXq_6⟩ := hXq.three
            have HO1 := Aside.mk (own_keep HOq.out hk)
            have k1 := hkq.trans hk
            clear HOq hk hkq p0 p0' p1 p1'
            cases hb : (a1 == a2 && b1 == b2)
            · have E1 := Aside.mk (HN.out (by rw [HDj.out]; exact hb))
              clear HY HN HD HDj
              go_wp2
              go_roundg (l.length - (j + 1))
              case measure => omega
              case rel => exact ⟨j + 1, _, by omega, by omega, by go_num, rfl, by rw [E1.out]; exact HO1.out, hXq, (by ((repeat (first | (with_reducible assumption) | ((with_reducible refine Keep.setCell ?_ ?_ _); rotate_left; focus (first | omega | (simp; done) | (simp; omega))) | (with_reducible refine Keep.alloc ?_ _) | (with_reducible refine Keep.drewN ?_ _) | (with_reducible refine Keep.drew ?_) | (with_reducible exact Keep.refl _) | refine Keep.trans ?_ (by with_reducible assumption) | exact Keep.refl _ | assumption))))⟩
            · have E1 := Aside.mk (HY.out (by rw [HDj.out]; exact hb))
              have HLL : (L0 ++ akR (akP s z T l) i j).length ≤ 3200 := by
                have : i * l.length ≤ 40 * 40 := Nat.mul_le_mul (by omega) h40
                rw [List.length_append]; omega
              clear HY HN HD HDj
              go_wp2_with (at_builtin; refine wpList_append_own _ rfl _ _ 39 rfl (w.heap.size + 1) 70 i0 (.agg #[.int .i64 0, .int .i64 0]) 2 16 Tryd.underlying39 hi0 hz0 hz1 hz2 rfl (by decide) _ _ _ rfl (own_keep HO1.out ((Keep.refl _).alloc _)) ⟨w2.heap.size, 0, none⟩ 1 1 [.int .i64 i, .int .i64 j] rfl rfl ?c1 ?c2 ?c3 ?c4 ?c5 ?_)
              case c1 =>
                intro y u hu
                match y, hu with
                | 0, hu => simp at hu; subst hu; simp [Addr.add]
                | 1, hu => simp at hu; subst hu; simp [Addr.add]
              case c2 => intro u hu; simp at hu; rcases hu with rfl | rfl <;> rfl
              case c3 => unfold maxLen; omega
              case c4 => omega
              case c5 => have := k1.size; have := hXq.lt; simp; omega
              intro v' w3 hown2 hg _
              have hr : ∀ k, Value.ownBlock _ = some k → _ := HO1.out.lt
              have k2 : Keep w w3 := (k1.alloc _).grown hg (fun k hk => by have := hr _ hk; omega)
              have hX3 := (hXq.alloc (.cells #[.int .i64 i, .int .i64 j] 70)).grownBy hg (fun h => by have := hr _ h.symm; omega)
              have HO := Aside.mk hown2
              clear HO1 hown2 hg hr hXq
              go_wp2
              go_roundg (l.length - (j + 1))
              case measure => omega
              case rel => exact ⟨j + 1, _, by omega, by omega, by go_num, rfl, by rw [E1.out, ← List.append_assoc, prs_app, prs_one, List.length_append, List.length_append]; exact HO.out, hX3, k2⟩
          · obtain rfl : j = l.length := by omega
            go_wp2
            go_roundg (l.length - (i + 1))
            case measure => omega
            case rel => exact ⟨i + 1, _, by omega, by go_num, rfl, by rw [HNX.out]; exact HOq.out, hXq, (by ((repeat (first | (with_reducible assumption) | ((with_reducible refine Keep.setCell ?_ ?_ _); rotate_left; focus (first | omega | (simp; done) | (simp; omega))) | (with_reducible refine Keep.alloc ?_ _) | (with_reducible refine Keep.drewN ?_ _) | (with_reducible refine Keep.drew ?_) | (with_reducible exact Keep.refl _) | refine Keep.trans ?_ (by with_reducible assumption) | exact Keep.refl _ | assumption))))⟩
      · obtain rfl : i = l.length := by omega
        have hX0 := HX0.out
        clear HX0
        go_wp2
        go_ret2; exact ⟨_, rfl, own_base HO0.out (by omega), (by ((repeat (first | (with_reducible assumption) | ((with_reducible refine Keep.setCell ?_ ?_ _); rotate_left; focus (first | omega | (simp; done) | (simp; omega))) | (with_reducible refine Keep.alloc ?_ _) | (with_reducible refine Keep.drewN ?_ _) | (with_reducible refine Keep.drew ?_) | (with_reducible exact Keep.refl _) | refine Keep.trans ?_ (by with_reducible assumption) | exact Keep.refl _ | assumption))))⟩
  · rw [alL_no h0]
    clear hT h1
    generalize alE s z p l = y at *
    go_enter Tryd.func20, Tryd.ntmps20
    (go_wp2_with fail); (go_at_call 52); (refine (hJ _ _ (hR.keep (((Keep.refl w).alloc _).alloc _)) HX.out).mono ?_); rintro e w2 ⟨rfl, hk2⟩
    have hz9 : w.heap.size ≤ w2.heap.size := by have := hk2.size; simp at this; omega
    go_wp2
    go_ret2; exact ⟨_, rfl, own_emptyP w2 w.heap.size hz9, (by ((repeat (first | (with_reducible assumption) | ((with_reducible refine Keep.setCell ?_ ?_ _); rotate_left; focus (first | omega | (simp; done) | (simp; omega))) | (with_reducible refine Keep.alloc ?_ _) | (with_reducible refine Keep.drewN ?_ _) | (with_reducible refine Keep.drew ?_) | (with_reducible exact Keep.refl _) | refine Keep.trans ?_ (by with_reducible assumption) | exact Keep.refl _ | assumption))))⟩
end Go.Proofs.YtbbnhbfofdhnbaaDoor
