/- Cards read out of texts: the walks. -/
import Derived.Test.YtagldpbmadfokaaGreatDoorNS
import Derived.Test.YtagldpbmadfokaaGreatDoorMonoG
import Derived.Test.YtagldpbmadfokaaGreatDoorCT2
import Derived.Test.YtagldpbmadfokaaGreatDoorN4
import Derived.Test.YtagldpbmadfokaaGreatDoorM3
set_option linter.unusedVariables false
set_option linter.unusedSimpArgs false
namespace Go.Proofs.YtagldpbmadfokaaGreatDoor
open Go.RowKit Go.Shelf
set_option maxHeartbeats 2000000
set_option maxRecDepth 20000
/-- The number that a word tells, and whether it tells one. -/
def hN (w : ByteArray) : Int := match numB w with
  | some n => n
  | none => 0
def okW (w : ByteArray) : Bool := (numB w).isSome
def orA (l : List ByteArray) : Wd := orLo 0#64 (l.map hN)
def orB (l : List ByteArray) : Wd := orHi 0#64 (l.map hN)
theorem orLo_one (x : Wd) (l : List Int) (h : Int) : orLo x (l ++ [h]) = orLo x l ||| bitLo h := by unfold orLo; rw [List.foldl_append]; rfl
theorem orHi_one (x : Wd) (l : List Int) (h : Int) : orHi x (l ++ [h]) = orHi x l ||| bitHi h := by unfold orHi; rw [List.foldl_append]; rfl
theorem orA_succ {l : List ByteArray} {i : Nat} (h : i < l.length) : orA (l.take (i + 1)) = orA (l.take i) ||| bitLo (hN l[i]) := by
  unfold orA; rw [List.take_succ_eq_append_getElem h, List.map_append]; exact orLo_one _ _ _
theorem orB_succ {l : List ByteArray} {i : Nat} (h : i < l.length) : orB (l.take (i + 1)) = orB (l.take i) ||| bitHi (hN l[i]) := by
  unfold orB; rw [List.take_succ_eq_append_getElem h, List.map_append]; exact orHi_one _ _ _
/-- The card that a text tells: name, holes; and whether it tells one. -/
def rcN (s : ByteArray) : ByteArray := match wds 32 s with
  | [] => ByteArray.empty
  | x :: _ => x
def rcT (s : ByteArray) : List ByteArray := match wds 32 s with
  | [] => []
  | _ :: l => l
theorem wds_cons (s : ByteArray) : wds 32 s = rcN s :: rcT s := by
  have h := (wds_len 32 s).1
  unfold rcN rcT
  cases hq : wds 32 s with
  | nil => rw [hq] at h; simp at h
  | cons x l => rfl
def rcA (s : ByteArray) : Wd := orA (rcT s)
def rcB (s : ByteArray) : Wd := orB (rcT s)
def rcO (s : ByteArray) : Bool := (rcT s).all okW && (cardB (rcN s) (rcB s) && decide (ctT (rcN s) (rcA s) (rcB s) = s))
/-- What a reader of cards returns. -/
def rdC (s n : ByteArray) (a b : Wd) : Prop := rcO s = true → n = rcN s ∧ a = rcA s ∧ b = rcB s
theorem rcO_no {s : ByteArray} {i : Nat} (h : i < (rcT s).length) (hb : okW (rcT s)[i] = false) : rcO s = false := by
  have : (rcT s).all okW = false := by rw [List.all_eq_false]; exact ⟨_, List.getElem_mem h, by rw [hb]; decide⟩
  unfold rcO; rw [this]; rfl
theorem rdC_no {s n : ByteArray} {a b : Wd} (h : rcO s = false) : rdC s n a b := fun e => by rw [h] at e; cases e
theorem rdN_ok {w : ByteArray} {v : Int} {b : Bool} (h : rdN w v b) : (b && holeB v) = okW w := h.1
theorem rdN_num {w : ByteArray} {v : Int} {b : Bool} (h : rdN w v b) (ho : okW w = true) : hN w = v := by
  unfold okW at ho
  cases hq : numB w with
  | none => rw [hq] at ho; cases ho
  | some n => unfold hN; rw [hq, (h.2 n hq).1]
theorem okW_take {l : List ByteArray} {i : Nat} (h : i < l.length) : (l.take (i + 1)).all okW = ((l.take i).all okW && okW l[i]) := by
  rw [List.take_succ_eq_append_getElem h, List.all_append]; simp
theorem rcN_head (s : ByteArray) : (strs (wds 32 s))[0]? = some (.string (rcN s)) := by rw [wds_cons]; rfl
theorem rcT_at {s : ByteArray} {i : Nat} (h : i < (rcT s).length) : (strs (wds 32 s))[i + 1]? = some (.string (rcT s)[i]) := by
  rw [wds_cons]
  exact strs_at (rcT s) i h
theorem rcT_len (s : ByteArray) : (rcT s).length + 1 = (wds 32 s).length := by rw [wds_cons]; simp
theorem rcN_size (s : ByteArray) : (rcN s).size ≤ s.size := wds_size (c := 32) (by rw [wds_cons]; exact List.mem_cons_self)
theorem rcT_size {s : ByteArray} {i : Nat} (h : i < (rcT s).length) : (rcT s)[i].size ≤ s.size :=
  wds_size (c := 32) (by rw [wds_cons s]; exact List.mem_cons_of_mem _ (List.getElem_mem h))
/-- Where the words lie. -/
theorem words_at {s : ByteArray} {w : World} {A : Option Addr} (h : Rd w A (strs (wds 32 s))) : ∃ b o, A = some ⟨b, o, none⟩ ∧ w.cell? ⟨b, o, none⟩ = some (.string (rcN s)) ∧ ∀ i (h : i < (rcT s).length), w.cell? ⟨b, o + (1 + i), none⟩ = some (.string (rcT s)[i]) := by
  obtain ⟨b, o, e, hc⟩ := h.at (k := 0) (by rw [strs_len]; have := (wds_len 32 s).1; omega)
  exact ⟨b, o, e, by simpa using hc 0 _ (rcN_head s), fun i hi => by have := hc (i + 1) _ (rcT_at hi); rwa [Nat.add_comm i 1] at this⟩
theorem hN_hole {w : ByteArray} (h : okW w = true) : 0 ≤ hN w ∧ hN w < 96 := by
  unfold okW at h
  cases hq : numB w with
  | none => rw [hq] at h; cases h
  | some n => unfold hN; rw [hq]; have := (numB_some hq).1; simp only; omega
theorem strings_Split (s : ByteArray) (c : UInt8) (w : World) (hs : s.size ≤ 1048576) (hg : Gs w) :
    Calls Tryz.prog 24 #[.string s, .string ⟨#[c]⟩] w fun e w' => ∃ g, e = .returned (.slice (some ⟨g, 0, none⟩) (wds c s).length (wds c s).length) ∧ Rd w' (some ⟨g, 0, none⟩) (strs (wds c s)) ∧ Keep w w' := by
  obtain ⟨m, hm⟩ := hg.m
  refine (Any.strings_Split { splitLays with } splitLays.i9 s ⟨#[c]⟩ m w (by omega) hm (Nat.le_refl 1)).mono ?_
  rintro e w' ⟨rfl, rfl⟩
  have e1 := split_wds c s
  have e2 := Lib.splitB_all ⟨#[c]⟩ (Nat.le_refl 1) 0 _ s rfl
  rw [e1] at e2 ⊢
  refine ⟨w.heap.size, by rw [← e2], ?_, (Keep.refl _).alloc _⟩
  have hB := Bx.new w (strs (wds c s)).toArray 9
  exact .inr ⟨_, _, rfl, fun j v hj => by rw [Nat.zero_add]; exact (hB.cell j).trans (by simpa using hj)⟩
theorem impl_readCard (s : ByteArray) (w : World) (hs : s.size ≤ 1048576) (hg : Gs w) :
    Calls Tryz.prog 13 #[.string s] w fun e w' => ∃ n a b, e = .returned (.tuple #[.agg #[.string n, .int .u64 (U a), .int .u64 (U b)], .bool (rcO s)]) ∧ rdC s n a b ∧ Keep w w' := by
  have hlen := rcT_len s
  have hlw := (wds_len 32 s).2
  have HSP := Aside.mk (fun W hg => strings_Split s 32 W hs hg)
  have hn0 := rcN_size s
  have HWA := Aside.mk (fun W A (h : Rd W A (strs (wds 32 s))) => words_at h)
  have HTZ := Aside.mk (fun (i : Nat) (h : i < (rcT s).length) => rcT_size h)
  have HOT := Aside.mk (fun (i : Nat) (h : i < (rcT s).length) => okW_take h)
  have HNO := Aside.mk (fun (i : Nat) (h : i < (rcT s).length) n a b hb => (⟨rcO_no h hb, rdC_no (rcO_no h hb)⟩ : rcO s = false ∧ rdC s n a b))
  have HFIN : Aside ((rcT s).all okW = true → rcO s = (cardB (rcN s) (rcB s) && ((ctT (rcN s) (rcA s) (rcB s)).toList == s.toList))) := Aside.mk (fun h => by
    unfold rcO; rw [h, Bool.true_and]; congr 1
    by_cases e : ctT (rcN s) (rcA s) (rcB s) = s
    · simp [e]
    · have : ¬ (ctT (rcN s) (rcA s) (rcB s)).toList = s.toList := fun h => e (bytes_eq h)
      simp [e, this])
  have HFR : Aside (rcN s = rcN s ∧ orA ((rcT s).take (rcT s).length) = rcA s ∧ orB ((rcT s).take (rcT s).length) = rcB s) := Aside.mk ⟨rfl, by rw [List.take_length]; rfl, by rw [List.take_length]; rfl⟩
  rw [← hlen] at HSP hlw
  go_enter Tryz.func13, Tryz.ntmps13
  (go_wp2_with fail); (go_at_call 24); (refine (HSP.out _ (hg.keep (by ((repeat (first | (with_reducible assumption) | ((with_reducible refine Keep.setCell ?_ ?_ _); rotate_left; focus (first | omega | (simp; done) | (simp; omega))) | (with_reducible refine Keep.alloc ?_ _) | (with_reducible refine Keep.drewN ?_ _) | (with_reducible refine Keep.drew ?_) | (with_reducible exact Keep.refl _) | refine Keep.trans ?_ (by with_reducible assumption) | exact Keep.refl _ | assumption)))))).mono ?_); rintro e w1 ⟨g, rfl, hRd, hk1⟩
  have hZ : Bx w1 w.heap.size #[.string ByteArray.empty, .int .u64 0, .int .u64 0] 34 := (Bx.new _ _ _).keep hk1
  have k1 : Keep w w1 := (by ((repeat (first | (with_reducible assumption) | ((with_reducible refine Keep.setCell ?_ ?_ _); rotate_left; focus (first | omega | (simp; done) | (simp; omega))) | (with_reducible refine Keep.alloc ?_ _) | (with_reducible refine Keep.drewN ?_ _) | (with_reducible refine Keep.drew ?_) | (with_reducible exact Keep.refl _) | refine Keep.trans ?_ (by with_reducible assumption) | exact Keep.refl _ | assumption))))
  obtain ⟨b, o, e, hc0, hcT⟩ := HWA.out _ _ hRd
  simp only [Option.some.injEq, Addr.mk.injEq] at e
  obtain ⟨rfl, rfl, _⟩ := e
  have HCT := Aside.mk hcT
  have zW := k1.size
  have zZ := hZ.lt
  clear hRd hcT hk1 HWA HSP hlen
  go_wp2_with fail
  ·
   go_loopg [19] (rcT s).length (fun n s19 wr => ∃ i : Nat, i + n = (rcT s).length ∧ s19 = .int .i64 i ∧ ((rcT s).take i).all okW = true ∧ Bx wr w.heap.size #[.string ByteArray.empty, .int .u64 0, .int .u64 0] 34 ∧ Bx wr w1.heap.size #[.string (rcN s), .int .u64 (U (orA ((rcT s).take i))), .int .u64 (U (orB ((rcT s).take i)))] 34 ∧ Keep w1 wr)
   case atStart =>
     refine ⟨0, by omega, rfl, rfl, ?_, ?_, ?_⟩
     · first | exact hZ.alloc _ | exact hZ.keep (by ((repeat (first | (with_reducible assumption) | ((with_reducible refine Keep.setCell ?_ ?_ _); rotate_left; focus (first | omega | (simp; done) | (simp; omega))) | (with_reducible refine Keep.alloc ?_ _) | (with_reducible refine Keep.drewN ?_ _) | (with_reducible refine Keep.drew ?_) | (with_reducible exact Keep.refl _) | refine Keep.trans ?_ (by with_reducible assumption) | exact Keep.refl _ | assumption))))
     · exact Bx.new _ _ _
     · exact (by ((repeat (first | (with_reducible assumption) | ((with_reducible refine Keep.setCell ?_ ?_ _); rotate_left; focus (first | omega | (simp; done) | (simp; omega))) | (with_reducible refine Keep.alloc ?_ _) | (with_reducible refine Keep.drewN ?_ _) | (with_reducible refine Keep.drew ?_) | (with_reducible exact Keep.refl _) | refine Keep.trans ?_ (by with_reducible assumption) | exact Keep.refl _ | assumption))))
   case round =>
     obtain ⟨i, hi, rfl, hall, hZ, hC, hk⟩ := hrel
     have HL := Aside.mk hall
     clear hall
     have kg := k1.trans hk
     have hCs := hC.three
     have hZs := hZ.three
     by_cases hlt : i < (rcT s).length
     · have hne : ¬ rcT s = [] := fun e => by rw [e] at hlt; simp at hlt
       have p1 := hk.cell (HCT.out i hlt)
       rw [Nat.zero_add] at p1
       first
         | (exact absurd h hne)
         | (
            have hz := HTZ.out i hlt
            have HS := Aside.mk (HOT.out i hlt)
            have HA := Aside.mk (And.intro (orA_succ hlt) (orB_succ hlt))
            have HN := Aside.mk (HNO.out i hlt)
            have hr := Aside.mk (nu_rdN (rcT s)[i])
            generalize (rcT s)[i] = x at *
            generalize orA ((rcT s).take i) = ma at *
            generalize orB ((rcT s).take i) = mb at *
            (go_wp2_with fail); (go_at_call 25); (refine (impl_readNumber _ _ (by omega) (hg.keep (by ((repeat (first | (with_reducible assumption) | ((with_reducible refine Keep.setCell ?_ ?_ _); rotate_left; focus (first | omega | (simp; done) | (simp; omega))) | (with_reducible refine Keep.alloc ?_ _) | (with_reducible refine Keep.drewN ?_ _) | (with_reducible refine Keep.drew ?_) | (with_reducible exact Keep.refl _) | refine Keep.trans ?_ (by with_reducible assumption) | exact Keep.refl _ | assumption)))))).mono ?_); rintro e w3 ⟨rfl, hk3⟩
            replace hZ := hZ.keep hk3
            replace hC := hC.keep hk3
            have hCs := hC.three
            have hZs := hZ.three
            have zC := hC.lt
            have zZ3 := hZ.lt
            replace kg := kg.trans hk3
            replace hk := hk.trans hk3
            clear hk3 p1
            cases hb : nuB x
            · have ho : okW x = false := by rw [← rdN_ok hr.out, hb]; rfl
              obtain ⟨e1, e2⟩ := HN.out ⟨#[]⟩ 0#64 0#64 ho
              have E2 := Aside.mk e2
              clear e2 HN HS HA hr ho
              go_wp2
              (apply bodyPost_ret; rotate_left; rfl; exact ⟨⟨#[]⟩, 0#64, 0#64, rfl, E2.out, (by ((repeat (first | (with_reducible assumption) | ((with_reducible refine Keep.setCell ?_ ?_ _); rotate_left; focus (first | omega | (simp; done) | (simp; omega))) | (with_reducible refine Keep.alloc ?_ _) | (with_reducible refine Keep.drewN ?_ _) | (with_reducible refine Keep.drew ?_) | (with_reducible exact Keep.refl _) | refine Keep.trans ?_ (by with_reducible assumption) | exact Keep.refl _ | assumption))))⟩; simp [results, Tryz.results13, go_sem, U_zero, e1, *])
            · (go_wp2_with fail); (go_at_call 26); (refine (impl_isHole _ _).mono ?_); rintro e w4 ⟨rfl, hk4⟩
              replace hZ := hZ.keep hk4
              replace hC := hC.keep hk4
              have hCs := hC.three
              have hZs := hZ.three
              have zC := hC.lt
              have zZ3 := hZ.lt
              replace kg := kg.trans hk4
              replace hk := hk.trans hk4
              clear hk4
              cases hh : holeB (nuV x)
              · have ho : okW x = false := by rw [← rdN_ok hr.out, hb, hh]; rfl
                obtain ⟨e1, e2⟩ := HN.out ⟨#[]⟩ 0#64 0#64 ho
                have E2 := Aside.mk e2
                clear e2 HN HS HA hr ho
                go_wp2
                (apply bodyPost_ret; rotate_left; rfl; exact ⟨⟨#[]⟩, 0#64, 0#64, rfl, E2.out, (by ((repeat (first | (with_reducible assumption) | ((with_reducible refine Keep.setCell ?_ ?_ _); rotate_left; focus (first | omega | (simp; done) | (simp; omega))) | (with_reducible refine Keep.alloc ?_ _) | (with_reducible refine Keep.drewN ?_ _) | (with_reducible refine Keep.drew ?_) | (with_reducible exact Keep.refl _) | refine Keep.trans ?_ (by with_reducible assumption) | exact Keep.refl _ | assumption))))⟩; simp [results, Tryz.results13, go_sem, U_zero, e1, *])
              · have ho : okW x = true := by rw [← rdN_ok hr.out, hb, hh]; rfl
                have hv := rdN_num hr.out ho
                obtain ⟨x0, x1⟩ := holeB_iff.1 hh
                have HS2 : Aside (((rcT s).take (i + 1)).all okW = true) := Aside.mk (by rw [HS.out, HL.out, ho]; rfl)
                rw [hv] at HA
                clear hv ho HN HS hr hh hb
                generalize nuV x = h at *
                (go_wp2_with fail); (go_at_call 27); (refine (impl_with1 ma mb h w4.heap.size 1 _ x0 x1 (by first | exact (Bx.new w4 #[.int .i64 h] 2).cell 0 | assumption)).mono ?_); rintro e w5 ⟨rfl, hk5⟩
                have kk : Keep w4 w5 := (by ((repeat (first | (with_reducible assumption) | ((with_reducible refine Keep.setCell ?_ ?_ _); rotate_left; focus (first | omega | (simp; done) | (simp; omega))) | (with_reducible refine Keep.alloc ?_ _) | (with_reducible refine Keep.drewN ?_ _) | (with_reducible refine Keep.drew ?_) | (with_reducible exact Keep.refl _) | refine Keep.trans ?_ (by with_reducible assumption) | exact Keep.refl _ | assumption))))
                replace hZ := hZ.keep kk
                replace hC := hC.keep kk
                have hCs := hC.three
                have hZs := hZ.three
                have zC := hC.lt
                have zZ3 := hZ.lt
                replace kg := kg.trans kk
                replace hk := hk.trans kk
                clear hk5 kk
                go_wp2
                go_roundg ((rcT s).length - (i + 1))
                case measure => omega
                case rel =>
                  refine ⟨i + 1, by omega, by go_num, HS2.out, ?_, ?_, ?_⟩
                  · exact ((hZ.set' (by simp; omega) _).set' (by simp; omega) _)
                  · rw [HA.out.1, HA.out.2]; simpa using (hC.set (i := 1) (.int .u64 (U (ma ||| bitLo h)))).set (i := 2) (.int .u64 (U (mb ||| bitHi h)))
                  · exact (by ((repeat (first | (with_reducible assumption) | ((with_reducible refine Keep.setCell ?_ ?_ _); rotate_left; focus (first | omega | (simp; done) | (simp; omega))) | (with_reducible refine Keep.alloc ?_ _) | (with_reducible refine Keep.drewN ?_ _) | (with_reducible refine Keep.drew ?_) | (with_reducible exact Keep.refl _) | refine Keep.trans ?_ (by with_reducible assumption) | exact Keep.refl _ | assumption)))))
     · obtain rfl : i = (rcT s).length := by omega
       have hal : (rcT s).all okW = true := by have := HL.out; rwa [List.take_length] at this
       rw [HFR.out.2.1, HFR.out.2.2] at hC
       have hfin := HFIN.out hal
       have hCs := hC.three
       clear HL hal HFIN HFR HNO HOT HTZ HCT
       have hcz := ctT_size (rcN s) (rcA s) (rcB s)
       have HID := Aside.mk (show rdC s (rcN s) (rcA s) (rcB s) from fun _ => ⟨rfl, rfl, rfl⟩)
       have hic := Aside.mk (fun W => impl_isCard (rcN s) (rcA s) (rcB s) W (by omega))
       have htx := Aside.mk (fun W => impl_cardText (rcN s) (rcA s) (rcB s) W (by omega))
       generalize rcN s = n at *
       generalize rcA s = a at *
       generalize rcB s = b at *
       generalize ctT n a b = d at *
       cases hq : cardB n b
       · rw [hq, Bool.false_and] at hfin
         rw [hq] at hic
         clear hcz htx
         (go_wp2_with fail)
         apply wp_region_store [Fx _, Fx _, Fx _, Fx _, Fx _, Fx _, Fx _, Fx _, Fx _, Fx undef, Fx _] 9 w.heap.size (JB _ w.heap.size 34 (#[.string ByteArray.empty, .int .u64 0, .int .u64 0]) (#[.string n, .int .u64 (U a), .int .u64 (U b)])) (by kernel_rfl) (by kernel_rfl) (growS_of ⟨fx_grow _ _, fx_grow _ _, fx_grow _ _, fx_grow _ _, fx_grow _ _, fx_grow _ _, fx_grow _ _, fx_grow _ _, fx_grow _ _, fx_grow _ _, fx_grow _ _, trivial⟩) jb_keep (fun _ => rfl) ⟨grown_refl _ _, hZ⟩ ?st4 ?tl4
         case st4 =>
           simp only [List.take_succ_cons, List.take_zero, List.drop_succ_cons, List.drop_zero, putAll, Act.put, List.setIfInBounds_toArray, List.set_cons_succ, List.set_cons_zero, Nat.zero_add, Nat.reduceAdd]
           first
             | (apply StepsG.run
                focus
                  intro v w2 b hb hJ hd
                  have hgw := hJ.1
                  have hgz := hgw.size
                  obtain ⟨hC_0, hC_1, hC_2, hC_3, hC_4, hC_5, hC_6⟩ := (hC.grownBy hgw (by first | (simp; omega) | (simp; done) | (intro hcx; simp at hcx; omega))).three
                  simp [DepsOf, factAt, Fx, Region.binds] at hd
                  refine ⟨?_, ?_⟩
                  focus (go_simp; done)
                  simp only [factAt, List.getD_cons_zero, List.getD_cons_succ]
                  refine Gives.mk ?_
                  go_simp
                  first | exact ⟨jb_other (by decide) (Keep.refl _), Fx.self _ _⟩ | (go_at_call 28; exact jb_call (by decide) (hic.out _)))
             | (refine StepsG.skip _ _ _ (by decide) (fun v w2 hd => ⟨?_, fun _ => rfl⟩) ?_
                focus
                  simp [DepsOf, factAt, Fx, Region.binds] at hd
                  go_simp; done)
           first
             | (apply StepsG.run
                focus
                  intro v w2 b hb hJ hd
                  have hgw := hJ.1
                  have hgz := hgw.size
                  obtain ⟨hC_0, hC_1, hC_2, hC_3, hC_4, hC_5, hC_6⟩ := (hC.grownBy hgw (by first | (simp; omega) | (simp; done) | (intro hcx; simp at hcx; omega))).three
                  simp [DepsOf, factAt, Fx, Region.binds] at hd
                  refine ⟨?_, ?_⟩
                  focus (go_simp; done)
                  simp only [factAt, List.getD_cons_zero, List.getD_cons_succ]
                  refine Gives.mk ?_
                  go_simp
                  first | exact ⟨jb_other (by decide) (Keep.refl _), Fx.self _ _⟩ | (go_at_call 28; exact jb_call (by decide) (hic.out _)))
             | (refine StepsG.skip _ _ _ (by decide) (fun v w2 hd => ⟨?_, fun _ => rfl⟩) ?_
                focus
                  simp [DepsOf, factAt, Fx, Region.binds] at hd
                  go_simp; done)
           first
             | (apply StepsG.run
                focus
                  intro v w2 b hb hJ hd
                  have hgw := hJ.1
                  have hgz := hgw.size
                  obtain ⟨hC_0, hC_1, hC_2, hC_3, hC_4, hC_5, hC_6⟩ := (hC.grownBy hgw (by first | (simp; omega) | (simp; done) | (intro hcx; simp at hcx; omega))).three
                  simp [DepsOf, factAt, Fx, Region.binds] at hd
                  refine ⟨?_, ?_⟩
                  focus (go_simp; done)
                  simp only [factAt, List.getD_cons_zero, List.getD_cons_succ]
                  refine Gives.mk ?_
                  go_simp
                  first | exact ⟨jb_other (by decide) (Keep.refl _), Fx.self _ _⟩ | (go_at_call 28; exact jb_call (by decide) (hic.out _)))
             | (refine StepsG.skip _ _ _ (by decide) (fun v w2 hd => ⟨?_, fun _ => rfl⟩) ?_
                focus
                  simp [DepsOf, factAt, Fx, Region.binds] at hd
                  go_simp; done)
           first
             | (apply StepsG.run
                focus
                  intro v w2 b hb hJ hd
                  have hgw := hJ.1
                  have hgz := hgw.size
                  obtain ⟨hC_0, hC_1, hC_2, hC_3, hC_4, hC_5, hC_6⟩ := (hC.grownBy hgw (by first | (simp; omega) | (simp; done) | (intro hcx; simp at hcx; omega))).three
                  simp [DepsOf, factAt, Fx, Region.binds] at hd
                  refine ⟨?_, ?_⟩
                  focus (go_simp; done)
                  simp only [factAt, List.getD_cons_zero, List.getD_cons_succ]
                  refine Gives.mk ?_
                  go_simp
                  first | exact ⟨jb_other (by decide) (Keep.refl _), Fx.self _ _⟩ | (go_at_call 28; exact jb_call (by decide) (hic.out _)))
             | (refine StepsG.skip _ _ _ (by decide) (fun v w2 hd => ⟨?_, fun _ => rfl⟩) ?_
                focus
                  simp [DepsOf, factAt, Fx, Region.binds] at hd
                  go_simp; done)
           first
             | (apply StepsG.run
                focus
                  intro v w2 b hb hJ hd
                  have hgw := hJ.1
                  have hgz := hgw.size
                  obtain ⟨hC_0, hC_1, hC_2, hC_3, hC_4, hC_5, hC_6⟩ := (hC.grownBy hgw (by first | (simp; omega) | (simp; done) | (intro hcx; simp at hcx; omega))).three
                  simp [DepsOf, factAt, Fx, Region.binds] at hd
                  refine ⟨?_, ?_⟩
                  focus (go_simp; done)
                  simp only [factAt, List.getD_cons_zero, List.getD_cons_succ]
                  refine Gives.mk ?_
                  go_simp
                  first | exact ⟨jb_other (by decide) (Keep.refl _), Fx.self _ _⟩ | (go_at_call 28; exact jb_call (by decide) (hic.out _)))
             | (refine StepsG.skip _ _ _ (by decide) (fun v w2 hd => ⟨?_, fun _ => rfl⟩) ?_
                focus
                  simp [DepsOf, factAt, Fx, Region.binds] at hd
                  go_simp; done)
           first
             | (apply StepsG.run
                focus
                  intro v w2 b hb hJ hd
                  have hgw := hJ.1
                  have hgz := hgw.size
                  obtain ⟨hC_0, hC_1, hC_2, hC_3, hC_4, hC_5, hC_6⟩ := (hC.grownBy hgw (by first | (simp; omega) | (simp; done) | (intro hcx; simp at hcx; omega))).three
                  simp [DepsOf, factAt, Fx, Region.binds] at hd
                  refine ⟨?_, ?_⟩
                  focus (go_simp; done)
                  simp only [factAt, List.getD_cons_zero, List.getD_cons_succ]
                  refine Gives.mk ?_
                  go_simp
                  first | exact ⟨jb_other (by decide) (Keep.refl _), Fx.self _ _⟩ | (go_at_call 28; exact jb_call (by decide) (hic.out _)))
             | (refine StepsG.skip _ _ _ (by decide) (fun v w2 hd => ⟨?_, fun _ => rfl⟩) ?_
                focus
                  simp [DepsOf, factAt, Fx, Region.binds] at hd
                  go_simp; done)
           first
             | (apply StepsG.run
                focus
                  intro v w2 b hb hJ hd
                  have hgw := hJ.1
                  have hgz := hgw.size
                  obtain ⟨hC_0, hC_1, hC_2, hC_3, hC_4, hC_5, hC_6⟩ := (hC.grownBy hgw (by first | (simp; omega) | (simp; done) | (intro hcx; simp at hcx; omega))).three
                  simp [DepsOf, factAt, Fx, Region.binds] at hd
                  refine ⟨?_, ?_⟩
                  focus (go_simp; done)
                  simp only [factAt, List.getD_cons_zero, List.getD_cons_succ]
                  refine Gives.mk ?_
                  go_simp
                  first | exact ⟨jb_other (by decide) (Keep.refl _), Fx.self _ _⟩ | (go_at_call 28; exact jb_call (by decide) (hic.out _)))
             | (refine StepsG.skip _ _ _ (by decide) (fun v w2 hd => ⟨?_, fun _ => rfl⟩) ?_
                focus
                  simp [DepsOf, factAt, Fx, Region.binds] at hd
                  go_simp; done)
           first
             | (apply StepsG.run
                focus
                  intro v w2 b hb hJ hd
                  have hgw := hJ.1
                  have hgz := hgw.size
                  obtain ⟨hC_0, hC_1, hC_2, hC_3, hC_4, hC_5, hC_6⟩ := (hC.grownBy hgw (by first | (simp; omega) | (simp; done) | (intro hcx; simp at hcx; omega))).three
                  simp [DepsOf, factAt, Fx, Region.binds] at hd
                  refine ⟨?_, ?_⟩
                  focus (go_simp; done)
                  simp only [factAt, List.getD_cons_zero, List.getD_cons_succ]
                  refine Gives.mk ?_
                  go_simp
                  first | exact ⟨jb_other (by decide) (Keep.refl _), Fx.self _ _⟩ | (go_at_call 28; exact jb_call (by decide) (hic.out _)))
             | (refine StepsG.skip _ _ _ (by decide) (fun v w2 hd => ⟨?_, fun _ => rfl⟩) ?_
                focus
                  simp [DepsOf, factAt, Fx, Region.binds] at hd
                  go_simp; done)
           first
             | (apply StepsG.run
                focus
                  intro v w2 b hb hJ hd
                  have hgw := hJ.1
                  have hgz := hgw.size
                  obtain ⟨hC_0, hC_1, hC_2, hC_3, hC_4, hC_5, hC_6⟩ := (hC.grownBy hgw (by first | (simp; omega) | (simp; done) | (intro hcx; simp at hcx; omega))).three
                  simp [DepsOf, factAt, Fx, Region.binds] at hd
                  refine ⟨?_, ?_⟩
                  focus (go_simp; done)
                  simp only [factAt, List.getD_cons_zero, List.getD_cons_succ]
                  refine Gives.mk ?_
                  go_simp
                  first | exact ⟨jb_other (by decide) (Keep.refl _), Fx.self _ _⟩ | (go_at_call 28; exact jb_call (by decide) (hic.out _)))
             | (refine StepsG.skip _ _ _ (by decide) (fun v w2 hd => ⟨?_, fun _ => rfl⟩) ?_
                focus
                  simp [DepsOf, factAt, Fx, Region.binds] at hd
                  go_simp; done)
           first
             | (apply StepsG.run
                focus
                  intro v w2 b hb hJ hd
                  have hgw := hJ.1
                  have hgz := hgw.size
                  obtain ⟨hC_0, hC_1, hC_2, hC_3, hC_4, hC_5, hC_6⟩ := (hC.grownBy hgw (by first | (simp; omega) | (simp; done) | (intro hcx; simp at hcx; omega))).three
                  obtain rfl := hb rfl
                  have hJ2 := hJ.2
                  simp only [Bool.false_eq_true, if_false] at hJ2
                  have hJs := hJ2.three
                  simp [DepsOf, factAt, Fx, Region.binds] at hd
                  refine ⟨?_, ?_⟩
                  focus (go_simp; done)
                  simp only [factAt, List.getD_cons_zero, List.getD_cons_succ]
                  refine Gives.mk ?_
                  go_simp
                  exact ⟨jb_store hgw (grown_trans (grown_trans (grown_set1 _ _ _ _) (grown_set1 _ _ _ _)) (grown_set1 _ _ _ _)) (Bx.set (Bx.set (Bx.set hJ2 _) _) _), rfl⟩)
           first
             | (apply StepsG.run
                focus
                  intro v w2 b hb hJ hd
                  have hgw := hJ.1
                  have hgz := hgw.size
                  obtain ⟨hC_0, hC_1, hC_2, hC_3, hC_4, hC_5, hC_6⟩ := (hC.grownBy hgw (by first | (simp; omega) | (simp; done) | (intro hcx; simp at hcx; omega))).three
                  simp [DepsOf, factAt, Fx, Region.binds] at hd
                  refine ⟨?_, ?_⟩
                  focus (go_simp; done)
                  simp only [factAt, List.getD_cons_zero, List.getD_cons_succ]
                  refine Gives.mk ?_
                  go_simp
                  first | exact ⟨jb_other (by decide) (Keep.refl _), Fx.self _ _⟩ | (go_at_call 28; exact jb_call (by decide) (hic.out _)))
             | (refine StepsG.skip _ _ _ (by decide) (fun v w2 hd => ⟨?_, fun _ => rfl⟩) ?_
                focus
                  simp [DepsOf, factAt, Fx, Region.binds] at hd
                  go_simp; done)
           exact StepsG.nil _
         simp only [List.take_succ_cons, List.take_zero, List.drop_succ_cons, List.drop_zero, putAll, Act.put, List.setIfInBounds_toArray, List.set_cons_succ, List.set_cons_zero, Nat.zero_add, Nat.reduceAdd]
         intro v w2 hJ hh
         have hgw := hJ.1
         have hgz := hgw.size
         have hB2 := hJ.2
         simp only [if_true] at hB2
         obtain ⟨hC_0, hC_1, hC_2, hC_3, hC_4, hC_5, hC_6⟩ := (hC.grownBy hgw (by first | (simp; omega) | (simp; done) | (intro hcx; simp at hcx; omega))).three
         simp only [List.length_cons, List.length_nil, Nat.zero_add, Nat.reduceAdd, Held, factAt, List.getD_cons_zero, List.getD_cons_succ, Fx, true_and] at hh
         obtain ⟨⟨⟨⟨⟨⟨⟨⟨⟨⟨v_0, v_1⟩, v_2⟩, v_3⟩, v_4⟩, v_5⟩, v_6⟩, v_7⟩, v_8⟩, v_9⟩, v_10⟩ := hh
         simp only [v_0, v_1, v_2, v_3, v_4, v_5, v_6, v_7, v_8, v_10]
         have hBs := hB2.three
         have kk : Keep w w2 := kg.grown hgw (fun k hk => by simp at hk; omega)
         go_wp2
         (apply bodyPost_ret; rotate_left; rfl; exact ⟨n, a, b, rfl, HID.out, (by ((repeat (first | (with_reducible assumption) | ((with_reducible refine Keep.setCell ?_ ?_ _); rotate_left; focus (first | omega | (simp; done) | (simp; omega))) | (with_reducible refine Keep.alloc ?_ _) | (with_reducible refine Keep.drewN ?_ _) | (with_reducible refine Keep.drew ?_) | (with_reducible exact Keep.refl _) | refine Keep.trans ?_ (by with_reducible assumption) | exact Keep.refl _ | assumption))))⟩; simp [results, Tryz.results13, go_sem, U_zero, hfin, *])
       · rw [hq, Bool.true_and] at hfin
         rw [hq] at hic
         clear hcz
         (go_wp2_with fail)
         apply wp_region_store [Fx _, Fx _, Fx _, Fx _, Fx _, Fx _, Fx _, Fx _, Fx _, Fx undef, Fx _] 9 w.heap.size (JB _ w.heap.size 34 (#[.string ByteArray.empty, .int .u64 0, .int .u64 0]) (#[.string n, .int .u64 (U a), .int .u64 (U b)])) (by kernel_rfl) (by kernel_rfl) (growS_of ⟨fx_grow _ _, fx_grow _ _, fx_grow _ _, fx_grow _ _, fx_grow _ _, fx_grow _ _, fx_grow _ _, fx_grow _ _, fx_grow _ _, fx_grow _ _, fx_grow _ _, trivial⟩) jb_keep (fun _ => rfl) ⟨grown_refl _ _, hZ⟩ ?st5 ?tl5
         case st5 =>
           simp only [List.take_succ_cons, List.take_zero, List.drop_succ_cons, List.drop_zero, putAll, Act.put, List.setIfInBounds_toArray, List.set_cons_succ, List.set_cons_zero, Nat.zero_add, Nat.reduceAdd]
           first
             | (apply StepsG.run
                focus
                  intro v w2 b hb hJ hd
                  have hgw := hJ.1
                  have hgz := hgw.size
                  obtain ⟨hC_0, hC_1, hC_2, hC_3, hC_4, hC_5, hC_6⟩ := (hC.grownBy hgw (by first | (simp; omega) | (simp; done) | (intro hcx; simp at hcx; omega))).three
                  simp [DepsOf, factAt, Fx, Region.binds] at hd
                  refine ⟨?_, ?_⟩
                  focus (go_simp; done)
                  simp only [factAt, List.getD_cons_zero, List.getD_cons_succ]
                  refine Gives.mk ?_
                  go_simp
                  first | exact ⟨jb_other (by decide) (Keep.refl _), Fx.self _ _⟩ | (go_at_call 28; exact jb_call (by decide) (hic.out _)) | (go_at_call 29; exact jb_call (by decide) (htx.out _)))
             | (refine StepsG.skip _ _ _ (by decide) (fun v w2 hd => ⟨?_, fun _ => rfl⟩) ?_
                focus
                  simp [DepsOf, factAt, Fx, Region.binds] at hd
                  go_simp; done)
           first
             | (apply StepsG.run
                focus
                  intro v w2 b hb hJ hd
                  have hgw := hJ.1
                  have hgz := hgw.size
                  obtain ⟨hC_0, hC_1, hC_2, hC_3, hC_4, hC_5, hC_6⟩ := (hC.grownBy hgw (by first | (simp; omega) | (simp; done) | (intro hcx; simp at hcx; omega))).three
                  simp [DepsOf, factAt, Fx, Region.binds] at hd
                  refine ⟨?_, ?_⟩
                  focus (go_simp; done)
                  simp only [factAt, List.getD_cons_zero, List.getD_cons_succ]
                  refine Gives.mk ?_
                  go_simp
                  first | exact ⟨jb_other (by decide) (Keep.refl _), Fx.self _ _⟩ | (go_at_call 28; exact jb_call (by decide) (hic.out _)) | (go_at_call 29; exact jb_call (by decide) (htx.out _)))
             | (refine StepsG.skip _ _ _ (by decide) (fun v w2 hd => ⟨?_, fun _ => rfl⟩) ?_
                focus
                  simp [DepsOf, factAt, Fx, Region.binds] at hd
                  go_simp; done)
           first
             | (apply StepsG.run
                focus
                  intro v w2 b hb hJ hd
                  have hgw := hJ.1
                  have hgz := hgw.size
                  obtain ⟨hC_0, hC_1, hC_2, hC_3, hC_4, hC_5, hC_6⟩ := (hC.grownBy hgw (by first | (simp; omega) | (simp; done) | (intro hcx; simp at hcx; omega))).three
                  simp [DepsOf, factAt, Fx, Region.binds] at hd
                  refine ⟨?_, ?_⟩
                  focus (go_simp; done)
                  simp only [factAt, List.getD_cons_zero, List.getD_cons_succ]
                  refine Gives.mk ?_
                  go_simp
                  first | exact ⟨jb_other (by decide) (Keep.refl _), Fx.self _ _⟩ | (go_at_call 28; exact jb_call (by decide) (hic.out _)) | (go_at_call 29; exact jb_call (by decide) (htx.out _)))
             | (refine StepsG.skip _ _ _ (by decide) (fun v w2 hd => ⟨?_, fun _ => rfl⟩) ?_
                focus
                  simp [DepsOf, factAt, Fx, Region.binds] at hd
                  go_simp; done)
           first
             | (apply StepsG.run
                focus
                  intro v w2 b hb hJ hd
                  have hgw := hJ.1
                  have hgz := hgw.size
                  obtain ⟨hC_0, hC_1, hC_2, hC_3, hC_4, hC_5, hC_6⟩ := (hC.grownBy hgw (by first | (simp; omega) | (simp; done) | (intro hcx; simp at hcx; omega))).three
                  simp [DepsOf, factAt, Fx, Region.binds] at hd
                  refine ⟨?_, ?_⟩
                  focus (go_simp; done)
                  simp only [factAt, List.getD_cons_zero, List.getD_cons_succ]
                  refine Gives.mk ?_
                  go_simp
                  first | exact ⟨jb_other (by decide) (Keep.refl _), Fx.self _ _⟩ | (go_at_call 28; exact jb_call (by decide) (hic.out _)) | (go_at_call 29; exact jb_call (by decide) (htx.out _)))
             | (refine StepsG.skip _ _ _ (by decide) (fun v w2 hd => ⟨?_, fun _ => rfl⟩) ?_
                focus
                  simp [DepsOf, factAt, Fx, Region.binds] at hd
                  go_simp; done)
           first
             | (apply StepsG.run
                focus
                  intro v w2 b hb hJ hd
                  have hgw := hJ.1
                  have hgz := hgw.size
                  obtain ⟨hC_0, hC_1, hC_2, hC_3, hC_4, hC_5, hC_6⟩ := (hC.grownBy hgw (by first | (simp; omega) | (simp; done) | (intro hcx; simp at hcx; omega))).three
                  simp [DepsOf, factAt, Fx, Region.binds] at hd
                  refine ⟨?_, ?_⟩
                  focus (go_simp; done)
                  simp only [factAt, List.getD_cons_zero, List.getD_cons_succ]
                  refine Gives.mk ?_
                  go_simp
                  first | exact ⟨jb_other (by decide) (Keep.refl _), Fx.self _ _⟩ | (go_at_call 28; exact jb_call (by decide) (hic.out _)) | (go_at_call 29; exact jb_call (by decide) (htx.out _)))
             | (refine StepsG.skip _ _ _ (by decide) (fun v w2 hd => ⟨?_, fun _ => rfl⟩) ?_
                focus
                  simp [DepsOf, factAt, Fx, Region.binds] at hd
                  go_simp; done)
           first
             | (apply StepsG.run
                focus
                  intro v w2 b hb hJ hd
                  have hgw := hJ.1
                  have hgz := hgw.size
                  obtain ⟨hC_0, hC_1, hC_2, hC_3, hC_4, hC_5, hC_6⟩ := (hC.grownBy hgw (by first | (simp; omega) | (simp; done) | (intro hcx; simp at hcx; omega))).three
                  simp [DepsOf, factAt, Fx, Region.binds] at hd
                  refine ⟨?_, ?_⟩
                  focus (go_simp; done)
                  simp only [factAt, List.getD_cons_zero, List.getD_cons_succ]
                  refine Gives.mk ?_
                  go_simp
                  first | exact ⟨jb_other (by decide) (Keep.refl _), Fx.self _ _⟩ | (go_at_call 28; exact jb_call (by decide) (hic.out _)) | (go_at_call 29; exact jb_call (by decide) (htx.out _)))
             | (refine StepsG.skip _ _ _ (by decide) (fun v w2 hd => ⟨?_, fun _ => rfl⟩) ?_
                focus
                  simp [DepsOf, factAt, Fx, Region.binds] at hd
                  go_simp; done)
           first
             | (apply StepsG.run
                focus
                  intro v w2 b hb hJ hd
                  have hgw := hJ.1
                  have hgz := hgw.size
                  obtain ⟨hC_0, hC_1, hC_2, hC_3, hC_4, hC_5, hC_6⟩ := (hC.grownBy hgw (by first | (simp; omega) | (simp; done) | (intro hcx; simp at hcx; omega))).three
                  simp [DepsOf, factAt, Fx, Region.binds] at hd
                  refine ⟨?_, ?_⟩
                  focus (go_simp; done)
                  simp only [factAt, List.getD_cons_zero, List.getD_cons_succ]
                  refine Gives.mk ?_
                  go_simp
                  first | exact ⟨jb_other (by decide) (Keep.refl _), Fx.self _ _⟩ | (go_at_call 28; exact jb_call (by decide) (hic.out _)) | (go_at_call 29; exact jb_call (by decide) (htx.out _)))
             | (refine StepsG.skip _ _ _ (by decide) (fun v w2 hd => ⟨?_, fun _ => rfl⟩) ?_
                focus
                  simp [DepsOf, factAt, Fx, Region.binds] at hd
                  go_simp; done)
           first
             | (apply StepsG.run
                focus
                  intro v w2 b hb hJ hd
                  have hgw := hJ.1
                  have hgz := hgw.size
                  obtain ⟨hC_0, hC_1, hC_2, hC_3, hC_4, hC_5, hC_6⟩ := (hC.grownBy hgw (by first | (simp; omega) | (simp; done) | (intro hcx; simp at hcx; omega))).three
                  simp [DepsOf, factAt, Fx, Region.binds] at hd
                  refine ⟨?_, ?_⟩
                  focus (go_simp; done)
                  simp only [factAt, List.getD_cons_zero, List.getD_cons_succ]
                  refine Gives.mk ?_
                  go_simp
                  first | exact ⟨jb_other (by decide) (Keep.refl _), Fx.self _ _⟩ | (go_at_call 28; exact jb_call (by decide) (hic.out _)) | (go_at_call 29; exact jb_call (by decide) (htx.out _)))
             | (refine StepsG.skip _ _ _ (by decide) (fun v w2 hd => ⟨?_, fun _ => rfl⟩) ?_
                focus
                  simp [DepsOf, factAt, Fx, Region.binds] at hd
                  go_simp; done)
           first
             | (apply StepsG.run
                focus
                  intro v w2 b hb hJ hd
                  have hgw := hJ.1
                  have hgz := hgw.size
                  obtain ⟨hC_0, hC_1, hC_2, hC_3, hC_4, hC_5, hC_6⟩ := (hC.grownBy hgw (by first | (simp; omega) | (simp; done) | (intro hcx; simp at hcx; omega))).three
                  simp [DepsOf, factAt, Fx, Region.binds] at hd
                  refine ⟨?_, ?_⟩
                  focus (go_simp; done)
                  simp only [factAt, List.getD_cons_zero, List.getD_cons_succ]
                  refine Gives.mk ?_
                  go_simp
                  first | exact ⟨jb_other (by decide) (Keep.refl _), Fx.self _ _⟩ | (go_at_call 28; exact jb_call (by decide) (hic.out _)) | (go_at_call 29; exact jb_call (by decide) (htx.out _)))
             | (refine StepsG.skip _ _ _ (by decide) (fun v w2 hd => ⟨?_, fun _ => rfl⟩) ?_
                focus
                  simp [DepsOf, factAt, Fx, Region.binds] at hd
                  go_simp; done)
           first
             | (apply StepsG.run
                focus
                  intro v w2 b hb hJ hd
                  have hgw := hJ.1
                  have hgz := hgw.size
                  obtain ⟨hC_0, hC_1, hC_2, hC_3, hC_4, hC_5, hC_6⟩ := (hC.grownBy hgw (by first | (simp; omega) | (simp; done) | (intro hcx; simp at hcx; omega))).three
                  obtain rfl := hb rfl
                  have hJ2 := hJ.2
                  simp only [Bool.false_eq_true, if_false] at hJ2
                  have hJs := hJ2.three
                  simp [DepsOf, factAt, Fx, Region.binds] at hd
                  refine ⟨?_, ?_⟩
                  focus (go_simp; done)
                  simp only [factAt, List.getD_cons_zero, List.getD_cons_succ]
                  refine Gives.mk ?_
                  go_simp
                  exact ⟨jb_store hgw (grown_trans (grown_trans (grown_set1 _ _ _ _) (grown_set1 _ _ _ _)) (grown_set1 _ _ _ _)) (Bx.set (Bx.set (Bx.set hJ2 _) _) _), rfl⟩)
           first
             | (apply StepsG.run
                focus
                  intro v w2 b hb hJ hd
                  have hgw := hJ.1
                  have hgz := hgw.size
                  obtain ⟨hC_0, hC_1, hC_2, hC_3, hC_4, hC_5, hC_6⟩ := (hC.grownBy hgw (by first | (simp; omega) | (simp; done) | (intro hcx; simp at hcx; omega))).three
                  simp [DepsOf, factAt, Fx, Region.binds] at hd
                  refine ⟨?_, ?_⟩
                  focus (go_simp; done)
                  simp only [factAt, List.getD_cons_zero, List.getD_cons_succ]
                  refine Gives.mk ?_
                  go_simp
                  first | exact ⟨jb_other (by decide) (Keep.refl _), Fx.self _ _⟩ | (go_at_call 28; exact jb_call (by decide) (hic.out _)) | (go_at_call 29; exact jb_call (by decide) (htx.out _)))
             | (refine StepsG.skip _ _ _ (by decide) (fun v w2 hd => ⟨?_, fun _ => rfl⟩) ?_
                focus
                  simp [DepsOf, factAt, Fx, Region.binds] at hd
                  go_simp; done)
           exact StepsG.nil _
         simp only [List.take_succ_cons, List.take_zero, List.drop_succ_cons, List.drop_zero, putAll, Act.put, List.setIfInBounds_toArray, List.set_cons_succ, List.set_cons_zero, Nat.zero_add, Nat.reduceAdd]
         intro v w2 hJ hh
         have hgw := hJ.1
         have hgz := hgw.size
         have hB2 := hJ.2
         simp only [if_true] at hB2
         obtain ⟨hC_0, hC_1, hC_2, hC_3, hC_4, hC_5, hC_6⟩ := (hC.grownBy hgw (by first | (simp; omega) | (simp; done) | (intro hcx; simp at hcx; omega))).three
         simp only [List.length_cons, List.length_nil, Nat.zero_add, Nat.reduceAdd, Held, factAt, List.getD_cons_zero, List.getD_cons_succ, Fx, true_and] at hh
         obtain ⟨⟨⟨⟨⟨⟨⟨⟨⟨⟨v_0, v_1⟩, v_2⟩, v_3⟩, v_4⟩, v_5⟩, v_6⟩, v_7⟩, v_8⟩, v_9⟩, v_10⟩ := hh
         simp only [v_0, v_1, v_2, v_3, v_4, v_5, v_6, v_7, v_8, v_10]
         have hBs := hB2.three
         have kk : Keep w w2 := kg.grown hgw (fun k hk => by simp at hk; omega)
         go_wp2
         (apply bodyPost_ret; rotate_left; rfl; exact ⟨n, a, b, rfl, HID.out, (by ((repeat (first | (with_reducible assumption) | ((with_reducible refine Keep.setCell ?_ ?_ _); rotate_left; focus (first | omega | (simp; done) | (simp; omega))) | (with_reducible refine Keep.alloc ?_ _) | (with_reducible refine Keep.drewN ?_ _) | (with_reducible refine Keep.drew ?_) | (with_reducible exact Keep.refl _) | refine Keep.trans ?_ (by with_reducible assumption) | exact Keep.refl _ | assumption))))⟩; simp [results, Tryz.results13, go_sem, U_zero, hfin, *])
  ·
   go_loopg [19] (rcT s).length (fun n s19 wr => ∃ i : Nat, i + n = (rcT s).length ∧ s19 = .int .i64 i ∧ ((rcT s).take i).all okW = true ∧ Bx wr w.heap.size #[.string ByteArray.empty, .int .u64 0, .int .u64 0] 34 ∧ Bx wr w1.heap.size #[.string (rcN s), .int .u64 (U (orA ((rcT s).take i))), .int .u64 (U (orB ((rcT s).take i)))] 34 ∧ Keep w1 wr)
   case atStart =>
     refine ⟨0, by omega, rfl, rfl, ?_, ?_, ?_⟩
     · first | exact hZ.alloc _ | exact hZ.keep (by ((repeat (first | (with_reducible assumption) | ((with_reducible refine Keep.setCell ?_ ?_ _); rotate_left; focus (first | omega | (simp; done) | (simp; omega))) | (with_reducible refine Keep.alloc ?_ _) | (with_reducible refine Keep.drewN ?_ _) | (with_reducible refine Keep.drew ?_) | (with_reducible exact Keep.refl _) | refine Keep.trans ?_ (by with_reducible assumption) | exact Keep.refl _ | assumption))))
     · exact Bx.new _ _ _
     · exact (by ((repeat (first | (with_reducible assumption) | ((with_reducible refine Keep.setCell ?_ ?_ _); rotate_left; focus (first | omega | (simp; done) | (simp; omega))) | (with_reducible refine Keep.alloc ?_ _) | (with_reducible refine Keep.drewN ?_ _) | (with_reducible refine Keep.drew ?_) | (with_reducible exact Keep.refl _) | refine Keep.trans ?_ (by with_reducible assumption) | exact Keep.refl _ | assumption))))
   case round =>
     obtain ⟨i, hi, rfl, hall, hZ, hC, hk⟩ := hrel
     have HL := Aside.mk hall
     clear hall
     have kg := k1.trans hk
     have hCs := hC.three
     have hZs := hZ.three
     by_cases hlt : i < (rcT s).length
     · have hne : ¬ rcT s = [] := fun e => by rw [e] at hlt; simp at hlt
       have p1 := hk.cell (HCT.out i hlt)
       rw [Nat.zero_add] at p1
       first
         | (exact absurd h hne)
         | (
            have hz := HTZ.out i hlt
            have HS := Aside.mk (HOT.out i hlt)
            have HA := Aside.mk (And.intro (orA_succ hlt) (orB_succ hlt))
            have HN := Aside.mk (HNO.out i hlt)
            have hr := Aside.mk (nu_rdN (rcT s)[i])
            generalize (rcT s)[i] = x at *
            generalize orA ((rcT s).take i) = ma at *
            generalize orB ((rcT s).take i) = mb at *
            (go_wp2_with fail); (go_at_call 25); (refine (impl_readNumber _ _ (by omega) (hg.keep (by ((repeat (first | (with_reducible assumption) | ((with_reducible refine Keep.setCell ?_ ?_ _); rotate_left; focus (first | omega | (simp; done) | (simp; omega))) | (with_reducible refine Keep.alloc ?_ _) | (with_reducible refine Keep.drewN ?_ _) | (with_reducible refine Keep.drew ?_) | (with_reducible exact Keep.refl _) | refine Keep.trans ?_ (by with_reducible assumption) | exact Keep.refl _ | assumption)))))).mono ?_); rintro e w3 ⟨rfl, hk3⟩
            replace hZ := hZ.keep hk3
            replace hC := hC.keep hk3
            have hCs := hC.three
            have hZs := hZ.three
            have zC := hC.lt
            have zZ3 := hZ.lt
            replace kg := kg.trans hk3
            replace hk := hk.trans hk3
            clear hk3 p1
            cases hb : nuB x
            · have ho : okW x = false := by rw [← rdN_ok hr.out, hb]; rfl
              obtain ⟨e1, e2⟩ := HN.out ⟨#[]⟩ 0#64 0#64 ho
              have E2 := Aside.mk e2
              clear e2 HN HS HA hr ho
              go_wp2
              (apply bodyPost_ret; rotate_left; rfl; exact ⟨⟨#[]⟩, 0#64, 0#64, rfl, E2.out, (by ((repeat (first | (with_reducible assumption) | ((with_reducible refine Keep.setCell ?_ ?_ _); rotate_left; focus (first | omega | (simp; done) | (simp; omega))) | (with_reducible refine Keep.alloc ?_ _) | (with_reducible refine Keep.drewN ?_ _) | (with_reducible refine Keep.drew ?_) | (with_reducible exact Keep.refl _) | refine Keep.trans ?_ (by with_reducible assumption) | exact Keep.refl _ | assumption))))⟩; simp [results, Tryz.results13, go_sem, U_zero, e1, *])
            · (go_wp2_with fail); (go_at_call 26); (refine (impl_isHole _ _).mono ?_); rintro e w4 ⟨rfl, hk4⟩
              replace hZ := hZ.keep hk4
              replace hC := hC.keep hk4
              have hCs := hC.three
              have hZs := hZ.three
              have zC := hC.lt
              have zZ3 := hZ.lt
              replace kg := kg.trans hk4
              replace hk := hk.trans hk4
              clear hk4
              cases hh : holeB (nuV x)
              · have ho : okW x = false := by rw [← rdN_ok hr.out, hb, hh]; rfl
                obtain ⟨e1, e2⟩ := HN.out ⟨#[]⟩ 0#64 0#64 ho
                have E2 := Aside.mk e2
                clear e2 HN HS HA hr ho
                go_wp2
                (apply bodyPost_ret; rotate_left; rfl; exact ⟨⟨#[]⟩, 0#64, 0#64, rfl, E2.out, (by ((repeat (first | (with_reducible assumption) | ((with_reducible refine Keep.setCell ?_ ?_ _); rotate_left; focus (first | omega | (simp; done) | (simp; omega))) | (with_reducible refine Keep.alloc ?_ _) | (with_reducible refine Keep.drewN ?_ _) | (with_reducible refine Keep.drew ?_) | (with_reducible exact Keep.refl _) | refine Keep.trans ?_ (by with_reducible assumption) | exact Keep.refl _ | assumption))))⟩; simp [results, Tryz.results13, go_sem, U_zero, e1, *])
              · have ho : okW x = true := by rw [← rdN_ok hr.out, hb, hh]; rfl
                have hv := rdN_num hr.out ho
                obtain ⟨x0, x1⟩ := holeB_iff.1 hh
                have HS2 : Aside (((rcT s).take (i + 1)).all okW = true) := Aside.mk (by rw [HS.out, HL.out, ho]; rfl)
                rw [hv] at HA
                clear hv ho HN HS hr hh hb
                generalize nuV x = h at *
                (go_wp2_with fail); (go_at_call 27); (refine (impl_with1 ma mb h w4.heap.size 1 _ x0 x1 (by first | exact (Bx.new w4 #[.int .i64 h] 2).cell 0 | assumption)).mono ?_); rintro e w5 ⟨rfl, hk5⟩
                have kk : Keep w4 w5 := (by ((repeat (first | (with_reducible assumption) | ((with_reducible refine Keep.setCell ?_ ?_ _); rotate_left; focus (first | omega | (simp; done) | (simp; omega))) | (with_reducible refine Keep.alloc ?_ _) | (with_reducible refine Keep.drewN ?_ _) | (with_reducible refine Keep.drew ?_) | (with_reducible exact Keep.refl _) | refine Keep.trans ?_ (by with_reducible assumption) | exact Keep.refl _ | assumption))))
                replace hZ := hZ.keep kk
                replace hC := hC.keep kk
                have hCs := hC.three
                have hZs := hZ.three
                have zC := hC.lt
                have zZ3 := hZ.lt
                replace kg := kg.trans kk
                replace hk := hk.trans kk
                clear hk5 kk
                go_wp2
                go_roundg ((rcT s).length - (i + 1))
                case measure => omega
                case rel =>
                  refine ⟨i + 1, by omega, by go_num, HS2.out, ?_, ?_, ?_⟩
                  · exact ((hZ.set' (by simp; omega) _).set' (by simp; omega) _)
                  · rw [HA.out.1, HA.out.2]; simpa using (hC.set (i := 1) (.int .u64 (U (ma ||| bitLo h)))).set (i := 2) (.int .u64 (U (mb ||| bitHi h)))
                  · exact (by ((repeat (first | (with_reducible assumption) | ((with_reducible refine Keep.setCell ?_ ?_ _); rotate_left; focus (first | omega | (simp; done) | (simp; omega))) | (with_reducible refine Keep.alloc ?_ _) | (with_reducible refine Keep.drewN ?_ _) | (with_reducible refine Keep.drew ?_) | (with_reducible exact Keep.refl _) | refine Keep.trans ?_ (by with_reducible assumption) | exact Keep.refl _ | assumption)))))
     · obtain rfl : i = (rcT s).length := by omega
       have hal : (rcT s).all okW = true := by have := HL.out; rwa [List.take_length] at this
       rw [HFR.out.2.1, HFR.out.2.2] at hC
       have hfin := HFIN.out hal
       have hCs := hC.three
       clear HL hal HFIN HFR HNO HOT HTZ HCT
       have hcz := ctT_size (rcN s) (rcA s) (rcB s)
       have HID := Aside.mk (show rdC s (rcN s) (rcA s) (rcB s) from fun _ => ⟨rfl, rfl, rfl⟩)
       have hic := Aside.mk (fun W => impl_isCard (rcN s) (rcA s) (rcB s) W (by omega))
       have htx := Aside.mk (fun W => impl_cardText (rcN s) (rcA s) (rcB s) W (by omega))
       generalize rcN s = n at *
       generalize rcA s = a at *
       generalize rcB s = b at *
       generalize ctT n a b = d at *
       cases hq : cardB n b
       · rw [hq, Bool.false_and] at hfin
         rw [hq] at hic
         clear hcz htx
         (go_wp2_with fail)
         apply wp_region_store [Fx _, Fx _, Fx _, Fx _, Fx _, Fx _, Fx _, Fx _, Fx _, Fx undef, Fx _] 9 w.heap.size (JB _ w.heap.size 34 (#[.string ByteArray.empty, .int .u64 0, .int .u64 0]) (#[.string n, .int .u64 (U a), .int .u64 (U b)])) (by kernel_rfl) (by kernel_rfl) (growS_of ⟨fx_grow _ _, fx_grow _ _, fx_grow _ _, fx_grow _ _, fx_grow _ _, fx_grow _ _, fx_grow _ _, fx_grow _ _, fx_grow _ _, fx_grow _ _, fx_grow _ _, trivial⟩) jb_keep (fun _ => rfl) ⟨grown_refl _ _, hZ⟩ ?st6 ?tl6
         case st6 =>
           simp only [List.take_succ_cons, List.take_zero, List.drop_succ_cons, List.drop_zero, putAll, Act.put, List.setIfInBounds_toArray, List.set_cons_succ, List.set_cons_zero, Nat.zero_add, Nat.reduceAdd]
           first
             | (apply StepsG.run
                focus
                  intro v w2 b hb hJ hd
                  have hgw := hJ.1
                  have hgz := hgw.size
                  obtain ⟨hC_0, hC_1, hC_2, hC_3, hC_4, hC_5, hC_6⟩ := (hC.grownBy hgw (by first | (simp; omega) | (simp; done) | (intro hcx; simp at hcx; omega))).three
                  simp [DepsOf, factAt, Fx, Region.binds] at hd
                  refine ⟨?_, ?_⟩
                  focus (go_simp; done)
                  simp only [factAt, List.getD_cons_zero, List.getD_cons_succ]
                  refine Gives.mk ?_
                  go_simp
                  first | exact ⟨jb_other (by decide) (Keep.refl _), Fx.self _ _⟩ | (go_at_call 28; exact jb_call (by decide) (hic.out _)))
             | (refine StepsG.skip _ _ _ (by decide) (fun v w2 hd => ⟨?_, fun _ => rfl⟩) ?_
                focus
                  simp [DepsOf, factAt, Fx, Region.binds] at hd
                  go_simp; done)
           first
             | (apply StepsG.run
                focus
                  intro v w2 b hb hJ hd
                  have hgw := hJ.1
                  have hgz := hgw.size
                  obtain ⟨hC_0, hC_1, hC_2, hC_3, hC_4, hC_5, hC_6⟩ := (hC.grownBy hgw (by first | (simp; omega) | (simp; done) | (intro hcx; simp at hcx; omega))).three
                  simp [DepsOf, factAt, Fx, Region.binds] at hd
                  refine ⟨?_, ?_⟩
                  focus (go_simp; done)
                  simp only [factAt, List.getD_cons_zero, List.getD_cons_succ]
                  refine Gives.mk ?_
                  go_simp
                  first | exact ⟨jb_other (by decide) (Keep.refl _), Fx.self _ _⟩ | (go_at_call 28; exact jb_call (by decide) (hic.out _)))
             | (refine StepsG.skip _ _ _ (by decide) (fun v w2 hd => ⟨?_, fun _ => rfl⟩) ?_
                focus
                  simp [DepsOf, factAt, Fx, Region.binds] at hd
                  go_simp; done)
           first
             | (apply StepsG.run
                focus
                  intro v w2 b hb hJ hd
                  have hgw := hJ.1
                  have hgz := hgw.size
                  obtain ⟨hC_0, hC_1, hC_2, hC_3, hC_4, hC_5, hC_6⟩ := (hC.grownBy hgw (by first | (simp; omega) | (simp; done) | (intro hcx; simp at hcx; omega))).three
                  simp [DepsOf, factAt, Fx, Region.binds] at hd
                  refine ⟨?_, ?_⟩
                  focus (go_simp; done)
                  simp only [factAt, List.getD_cons_zero, List.getD_cons_succ]
                  refine Gives.mk ?_
                  go_simp
                  first | exact ⟨jb_other (by decide) (Keep.refl _), Fx.self _ _⟩ | (go_at_call 28; exact jb_call (by decide) (hic.out _)))
             | (refine StepsG.skip _ _ _ (by decide) (fun v w2 hd => ⟨?_, fun _ => rfl⟩) ?_
                focus
                  simp [DepsOf, factAt, Fx, Region.binds] at hd
                  go_simp; done)
           first
             | (apply StepsG.run
                focus
                  intro v w2 b hb hJ hd
                  have hgw := hJ.1
                  have hgz := hgw.size
                  obtain ⟨hC_0, hC_1, hC_2, hC_3, hC_4, hC_5, hC_6⟩ := (hC.grownBy hgw (by first | (simp; omega) | (simp; done) | (intro hcx; simp at hcx; omega))).three
                  simp [DepsOf, factAt, Fx, Region.binds] at hd
                  refine ⟨?_, ?_⟩
                  focus (go_simp; done)
                  simp only [factAt, List.getD_cons_zero, List.getD_cons_succ]
                  refine Gives.mk ?_
                  go_simp
                  first | exact ⟨jb_other (by decide) (Keep.refl _), Fx.self _ _⟩ | (go_at_call 28; exact jb_call (by decide) (hic.out _)))
             | (refine StepsG.skip _ _ _ (by decide) (fun v w2 hd => ⟨?_, fun _ => rfl⟩) ?_
                focus
                  simp [DepsOf, factAt, Fx, Region.binds] at hd
                  go_simp; done)
           first
             | (apply StepsG.run
                focus
                  intro v w2 b hb hJ hd
                  have hgw := hJ.1
                  have hgz := hgw.size
                  obtain ⟨hC_0, hC_1, hC_2, hC_3, hC_4, hC_5, hC_6⟩ := (hC.grownBy hgw (by first | (simp; omega) | (simp; done) | (intro hcx; simp at hcx; omega))).three
                  simp [DepsOf, factAt, Fx, Region.binds] at hd
                  refine ⟨?_, ?_⟩
                  focus (go_simp; done)
                  simp only [factAt, List.getD_cons_zero, List.getD_cons_succ]
                  refine Gives.mk ?_
                  go_simp
                  first | exact ⟨jb_other (by decide) (Keep.refl _), Fx.self _ _⟩ | (go_at_call 28; exact jb_call (by decide) (hic.out _)))
             | (refine StepsG.skip _ _ _ (by decide) (fun v w2 hd => ⟨?_, fun _ => rfl⟩) ?_
                focus
                  simp [DepsOf, factAt, Fx, Region.binds] at hd
                  go_simp; done)
           first
             | (apply StepsG.run
                focus
                  intro v w2 b hb hJ hd
                  have hgw := hJ.1
                  have hgz := hgw.size
                  obtain ⟨hC_0, hC_1, hC_2, hC_3, hC_4, hC_5, hC_6⟩ := (hC.grownBy hgw (by first | (simp; omega) | (simp; done) | (intro hcx; simp at hcx; omega))).three
                  simp [DepsOf, factAt, Fx, Region.binds] at hd
                  refine ⟨?_, ?_⟩
                  focus (go_simp; done)
                  simp only [factAt, List.getD_cons_zero, List.getD_cons_succ]
                  refine Gives.mk ?_
                  go_simp
                  first | exact ⟨jb_other (by decide) (Keep.refl _), Fx.self _ _⟩ | (go_at_call 28; exact jb_call (by decide) (hic.out _)))
             | (refine StepsG.skip _ _ _ (by decide) (fun v w2 hd => ⟨?_, fun _ => rfl⟩) ?_
                focus
                  simp [DepsOf, factAt, Fx, Region.binds] at hd
                  go_simp; done)
           first
             | (apply StepsG.run
                focus
                  intro v w2 b hb hJ hd
                  have hgw := hJ.1
                  have hgz := hgw.size
                  obtain ⟨hC_0, hC_1, hC_2, hC_3, hC_4, hC_5, hC_6⟩ := (hC.grownBy hgw (by first | (simp; omega) | (simp; done) | (intro hcx; simp at hcx; omega))).three
                  simp [DepsOf, factAt, Fx, Region.binds] at hd
                  refine ⟨?_, ?_⟩
                  focus (go_simp; done)
                  simp only [factAt, List.getD_cons_zero, List.getD_cons_succ]
                  refine Gives.mk ?_
                  go_simp
                  first | exact ⟨jb_other (by decide) (Keep.refl _), Fx.self _ _⟩ | (go_at_call 28; exact jb_call (by decide) (hic.out _)))
             | (refine StepsG.skip _ _ _ (by decide) (fun v w2 hd => ⟨?_, fun _ => rfl⟩) ?_
                focus
                  simp [DepsOf, factAt, Fx, Region.binds] at hd
                  go_simp; done)
           first
             | (apply StepsG.run
                focus
                  intro v w2 b hb hJ hd
                  have hgw := hJ.1
                  have hgz := hgw.size
                  obtain ⟨hC_0, hC_1, hC_2, hC_3, hC_4, hC_5, hC_6⟩ := (hC.grownBy hgw (by first | (simp; omega) | (simp; done) | (intro hcx; simp at hcx; omega))).three
                  simp [DepsOf, factAt, Fx, Region.binds] at hd
                  refine ⟨?_, ?_⟩
                  focus (go_simp; done)
                  simp only [factAt, List.getD_cons_zero, List.getD_cons_succ]
                  refine Gives.mk ?_
                  go_simp
                  first | exact ⟨jb_other (by decide) (Keep.refl _), Fx.self _ _⟩ | (go_at_call 28; exact jb_call (by decide) (hic.out _)))
             | (refine StepsG.skip _ _ _ (by decide) (fun v w2 hd => ⟨?_, fun _ => rfl⟩) ?_
                focus
                  simp [DepsOf, factAt, Fx, Region.binds] at hd
                  go_simp; done)
           first
             | (apply StepsG.run
                focus
                  intro v w2 b hb hJ hd
                  have hgw := hJ.1
                  have hgz := hgw.size
                  obtain ⟨hC_0, hC_1, hC_2, hC_3, hC_4, hC_5, hC_6⟩ := (hC.grownBy hgw (by first | (simp; omega) | (simp; done) | (intro hcx; simp at hcx; omega))).three
                  simp [DepsOf, factAt, Fx, Region.binds] at hd
                  refine ⟨?_, ?_⟩
                  focus (go_simp; done)
                  simp only [factAt, List.getD_cons_zero, List.getD_cons_succ]
                  refine Gives.mk ?_
                  go_simp
                  first | exact ⟨jb_other (by decide) (Keep.refl _), Fx.self _ _⟩ | (go_at_call 28; exact jb_call (by decide) (hic.out _)))
             | (refine StepsG.skip _ _ _ (by decide) (fun v w2 hd => ⟨?_, fun _ => rfl⟩) ?_
                focus
                  simp [DepsOf, factAt, Fx, Region.binds] at hd
                  go_simp; done)
           first
             | (apply StepsG.run
                focus
                  intro v w2 b hb hJ hd
                  have hgw := hJ.1
                  have hgz := hgw.size
                  obtain ⟨hC_0, hC_1, hC_2, hC_3, hC_4, hC_5, hC_6⟩ := (hC.grownBy hgw (by first | (simp; omega) | (simp; done) | (intro hcx; simp at hcx; omega))).three
                  obtain rfl := hb rfl
                  have hJ2 := hJ.2
                  simp only [Bool.false_eq_true, if_false] at hJ2
                  have hJs := hJ2.three
                  simp [DepsOf, factAt, Fx, Region.binds] at hd
                  refine ⟨?_, ?_⟩
                  focus (go_simp; done)
                  simp only [factAt, List.getD_cons_zero, List.getD_cons_succ]
                  refine Gives.mk ?_
                  go_simp
                  exact ⟨jb_store hgw (grown_trans (grown_trans (grown_set1 _ _ _ _) (grown_set1 _ _ _ _)) (grown_set1 _ _ _ _)) (Bx.set (Bx.set (Bx.set hJ2 _) _) _), rfl⟩)
           first
             | (apply StepsG.run
                focus
                  intro v w2 b hb hJ hd
                  have hgw := hJ.1
                  have hgz := hgw.size
                  obtain ⟨hC_0, hC_1, hC_2, hC_3, hC_4, hC_5, hC_6⟩ := (hC.grownBy hgw (by first | (simp; omega) | (simp; done) | (intro hcx; simp at hcx; omega))).three
                  simp [DepsOf, factAt, Fx, Region.binds] at hd
                  refine ⟨?_, ?_⟩
                  focus (go_simp; done)
                  simp only [factAt, List.getD_cons_zero, List.getD_cons_succ]
                  refine Gives.mk ?_
                  go_simp
                  first | exact ⟨jb_other (by decide) (Keep.refl _), Fx.self _ _⟩ | (go_at_call 28; exact jb_call (by decide) (hic.out _)))
             | (refine StepsG.skip _ _ _ (by decide) (fun v w2 hd => ⟨?_, fun _ => rfl⟩) ?_
                focus
                  simp [DepsOf, factAt, Fx, Region.binds] at hd
                  go_simp; done)
           exact StepsG.nil _
         simp only [List.take_succ_cons, List.take_zero, List.drop_succ_cons, List.drop_zero, putAll, Act.put, List.setIfInBounds_toArray, List.set_cons_succ, List.set_cons_zero, Nat.zero_add, Nat.reduceAdd]
         intro v w2 hJ hh
         have hgw := hJ.1
         have hgz := hgw.size
         have hB2 := hJ.2
         simp only [if_true] at hB2
         obtain ⟨hC_0, hC_1, hC_2, hC_3, hC_4, hC_5, hC_6⟩ := (hC.grownBy hgw (by first | (simp; omega) | (simp; done) | (intro hcx; simp at hcx; omega))).three
         simp only [List.length_cons, List.length_nil, Nat.zero_add, Nat.reduceAdd, Held, factAt, List.getD_cons_zero, List.getD_cons_succ, Fx, true_and] at hh
         obtain ⟨⟨⟨⟨⟨⟨⟨⟨⟨⟨v_0, v_1⟩, v_2⟩, v_3⟩, v_4⟩, v_5⟩, v_6⟩, v_7⟩, v_8⟩, v_9⟩, v_10⟩ := hh
         simp only [v_0, v_1, v_2, v_3, v_4, v_5, v_6, v_7, v_8, v_10]
         have hBs := hB2.three
         have kk : Keep w w2 := kg.grown hgw (fun k hk => by simp at hk; omega)
         go_wp2
         (apply bodyPost_ret; rotate_left; rfl; exact ⟨n, a, b, rfl, HID.out, (by ((repeat (first | (with_reducible assumption) | ((with_reducible refine Keep.setCell ?_ ?_ _); rotate_left; focus (first | omega | (simp; done) | (simp; omega))) | (with_reducible refine Keep.alloc ?_ _) | (with_reducible refine Keep.drewN ?_ _) | (with_reducible refine Keep.drew ?_) | (with_reducible exact Keep.refl _) | refine Keep.trans ?_ (by with_reducible assumption) | exact Keep.refl _ | assumption))))⟩; simp [results, Tryz.results13, go_sem, U_zero, hfin, *])
       · rw [hq, Bool.true_and] at hfin
         rw [hq] at hic
         clear hcz
         (go_wp2_with fail)
         apply wp_region_store [Fx _, Fx _, Fx _, Fx _, Fx _, Fx _, Fx _, Fx _, Fx _, Fx undef, Fx _] 9 w.heap.size (JB _ w.heap.size 34 (#[.string ByteArray.empty, .int .u64 0, .int .u64 0]) (#[.string n, .int .u64 (U a), .int .u64 (U b)])) (by kernel_rfl) (by kernel_rfl) (growS_of ⟨fx_grow _ _, fx_grow _ _, fx_grow _ _, fx_grow _ _, fx_grow _ _, fx_grow _ _, fx_grow _ _, fx_grow _ _, fx_grow _ _, fx_grow _ _, fx_grow _ _, trivial⟩) jb_keep (fun _ => rfl) ⟨grown_refl _ _, hZ⟩ ?st7 ?tl7
         case st7 =>
           simp only [List.take_succ_cons, List.take_zero, List.drop_succ_cons, List.drop_zero, putAll, Act.put, List.setIfInBounds_toArray, List.set_cons_succ, List.set_cons_zero, Nat.zero_add, Nat.reduceAdd]
           first
             | (apply StepsG.run
                focus
                  intro v w2 b hb hJ hd
                  have hgw := hJ.1
                  have hgz := hgw.size
                  obtain ⟨hC_0, hC_1, hC_2, hC_3, hC_4, hC_5, hC_6⟩ := (hC.grownBy hgw (by first | (simp; omega) | (simp; done) | (intro hcx; simp at hcx; omega))).three
                  simp [DepsOf, factAt, Fx, Region.binds] at hd
                  refine ⟨?_, ?_⟩
                  focus (go_simp; done)
                  simp only [factAt, List.getD_cons_zero, List.getD_cons_succ]
                  refine Gives.mk ?_
                  go_simp
                  first | exact ⟨jb_other (by decide) (Keep.refl _), Fx.self _ _⟩ | (go_at_call 28; exact jb_call (by decide) (hic.out _)) | (go_at_call 29; exact jb_call (by decide) (htx.out _)))
             | (refine StepsG.skip _ _ _ (by decide) (fun v w2 hd => ⟨?_, fun _ => rfl⟩) ?_
                focus
                  simp [DepsOf, factAt, Fx, Region.binds] at hd
                  go_simp; done)
           first
             | (apply StepsG.run
                focus
                  intro v w2 b hb hJ hd
                  have hgw := hJ.1
                  have hgz := hgw.size
                  obtain ⟨hC_0, hC_1, hC_2, hC_3, hC_4, hC_5, hC_6⟩ := (hC.grownBy hgw (by first | (simp; omega) | (simp; done) | (intro hcx; simp at hcx; omega))).three
                  simp [DepsOf, factAt, Fx, Region.binds] at hd
                  refine ⟨?_, ?_⟩
                  focus (go_simp; done)
                  simp only [factAt, List.getD_cons_zero, List.getD_cons_succ]
                  refine Gives.mk ?_
                  go_simp
                  first | exact ⟨jb_other (by decide) (Keep.refl _), Fx.self _ _⟩ | (go_at_call 28; exact jb_call (by decide) (hic.out _)) | (go_at_call 29; exact jb_call (by decide) (htx.out _)))
             | (refine StepsG.skip _ _ _ (by decide) (fun v w2 hd => ⟨?_, fun _ => rfl⟩) ?_
                focus
                  simp [DepsOf, factAt, Fx, Region.binds] at hd
                  go_simp; done)
           first
             | (apply StepsG.run
                focus
                  intro v w2 b hb hJ hd
                  have hgw := hJ.1
                  have hgz := hgw.size
                  obtain ⟨hC_0, hC_1, hC_2, hC_3, hC_4, hC_5, hC_6⟩ := (hC.grownBy hgw (by first | (simp; omega) | (simp; done) | (intro hcx; simp at hcx; omega))).three
                  simp [DepsOf, factAt, Fx, Region.binds] at hd
                  refine ⟨?_, ?_⟩
                  focus (go_simp; done)
                  simp only [factAt, List.getD_cons_zero, List.getD_cons_succ]
                  refine Gives.mk ?_
                  go_simp
                  first | exact ⟨jb_other (by decide) (Keep.refl _), Fx.self _ _⟩ | (go_at_call 28; exact jb_call (by decide) (hic.out _)) | (go_at_call 29; exact jb_call (by decide) (htx.out _)))
             | (refine StepsG.skip _ _ _ (by decide) (fun v w2 hd => ⟨?_, fun _ => rfl⟩) ?_
                focus
                  simp [DepsOf, factAt, Fx, Region.binds] at hd
                  go_simp; done)
           first
             | (apply StepsG.run
                focus
                  intro v w2 b hb hJ hd
                  have hgw := hJ.1
                  have hgz := hgw.size
                  obtain ⟨hC_0, hC_1, hC_2, hC_3, hC_4, hC_5, hC_6⟩ := (hC.grownBy hgw (by first | (simp; omega) | (simp; done) | (intro hcx; simp at hcx; omega))).three
                  simp [DepsOf, factAt, Fx, Region.binds] at hd
                  refine ⟨?_, ?_⟩
                  focus (go_simp; done)
                  simp only [factAt, List.getD_cons_zero, List.getD_cons_succ]
                  refine Gives.mk ?_
                  go_simp
                  first | exact ⟨jb_other (by decide) (Keep.refl _), Fx.self _ _⟩ | (go_at_call 28; exact jb_call (by decide) (hic.out _)) | (go_at_call 29; exact jb_call (by decide) (htx.out _)))
             | (refine StepsG.skip _ _ _ (by decide) (fun v w2 hd => ⟨?_, fun _ => rfl⟩) ?_
                focus
                  simp [DepsOf, factAt, Fx, Region.binds] at hd
                  go_simp; done)
           first
             | (apply StepsG.run
                focus
                  intro v w2 b hb hJ hd
                  have hgw := hJ.1
                  have hgz := hgw.size
                  obtain ⟨hC_0, hC_1, hC_2, hC_3, hC_4, hC_5, hC_6⟩ := (hC.grownBy hgw (by first | (simp; omega) | (simp; done) | (intro hcx; simp at hcx; omega))).three
                  simp [DepsOf, factAt, Fx, Region.binds] at hd
                  refine ⟨?_, ?_⟩
                  focus (go_simp; done)
                  simp only [factAt, List.getD_cons_zero, List.getD_cons_succ]
                  refine Gives.mk ?_
                  go_simp
                  first | exact ⟨jb_other (by decide) (Keep.refl _), Fx.self _ _⟩ | (go_at_call 28; exact jb_call (by decide) (hic.out _)) | (go_at_call 29; exact jb_call (by decide) (htx.out _)))
             | (refine StepsG.skip _ _ _ (by decide) (fun v w2 hd => ⟨?_, fun _ => rfl⟩) ?_
                focus
                  simp [DepsOf, factAt, Fx, Region.binds] at hd
                  go_simp; done)
           first
             | (apply StepsG.run
                focus
                  intro v w2 b hb hJ hd
                  have hgw := hJ.1
                  have hgz := hgw.size
                  obtain ⟨hC_0, hC_1, hC_2, hC_3, hC_4, hC_5, hC_6⟩ := (hC.grownBy hgw (by first | (simp; omega) | (simp; done) | (intro hcx; simp at hcx; omega))).three
                  simp [DepsOf, factAt, Fx, Region.binds] at hd
                  refine ⟨?_, ?_⟩
                  focus (go_simp; done)
                  simp only [factAt, List.getD_cons_zero, List.getD_cons_succ]
                  refine Gives.mk ?_
                  go_simp
                  first | exact ⟨jb_other (by decide) (Keep.refl _), Fx.self _ _⟩ | (go_at_call 28; exact jb_call (by decide) (hic.out _)) | (go_at_call 29; exact jb_call (by decide) (htx.out _)))
             | (refine StepsG.skip _ _ _ (by decide) (fun v w2 hd => ⟨?_, fun _ => rfl⟩) ?_
                focus
                  simp [DepsOf, factAt, Fx, Region.binds] at hd
                  go_simp; done)
           first
             | (apply StepsG.run
                focus
                  intro v w2 b hb hJ hd
                  have hgw := hJ.1
                  have hgz := hgw.size
                  obtain ⟨hC_0, hC_1, hC_2, hC_3, hC_4, hC_5, hC_6⟩ := (hC.grownBy hgw (by first | (simp; omega) | (simp; done) | (intro hcx; simp at hcx; omega))).three
                  simp [DepsOf, factAt, Fx, Region.binds] at hd
                  refine ⟨?_, ?_⟩
                  focus (go_simp; done)
                  simp only [factAt, List.getD_cons_zero, List.getD_cons_succ]
                  refine Gives.mk ?_
                  go_simp
                  first | exact ⟨jb_other (by decide) (Keep.refl _), Fx.self _ _⟩ | (go_at_call 28; exact jb_call (by decide) (hic.out _)) | (go_at_call 29; exact jb_call (by decide) (htx.out _)))
             | (refine StepsG.skip _ _ _ (by decide) (fun v w2 hd => ⟨?_, fun _ => rfl⟩) ?_
                focus
                  simp [DepsOf, factAt, Fx, Region.binds] at hd
                  go_simp; done)
           first
             | (apply StepsG.run
                focus
                  intro v w2 b hb hJ hd
                  have hgw := hJ.1
                  have hgz := hgw.size
                  obtain ⟨hC_0, hC_1, hC_2, hC_3, hC_4, hC_5, hC_6⟩ := (hC.grownBy hgw (by first | (simp; omega) | (simp; done) | (intro hcx; simp at hcx; omega))).three
                  simp [DepsOf, factAt, Fx, Region.binds] at hd
                  refine ⟨?_, ?_⟩
                  focus (go_simp; done)
                  simp only [factAt, List.getD_cons_zero, List.getD_cons_succ]
                  refine Gives.mk ?_
                  go_simp
                  first | exact ⟨jb_other (by decide) (Keep.refl _), Fx.self _ _⟩ | (go_at_call 28; exact jb_call (by decide) (hic.out _)) | (go_at_call 29; exact jb_call (by decide) (htx.out _)))
             | (refine StepsG.skip _ _ _ (by decide) (fun v w2 hd => ⟨?_, fun _ => rfl⟩) ?_
                focus
                  simp [DepsOf, factAt, Fx, Region.binds] at hd
                  go_simp; done)
           first
             | (apply StepsG.run
                focus
                  intro v w2 b hb hJ hd
                  have hgw := hJ.1
                  have hgz := hgw.size
                  obtain ⟨hC_0, hC_1, hC_2, hC_3, hC_4, hC_5, hC_6⟩ := (hC.grownBy hgw (by first | (simp; omega) | (simp; done) | (intro hcx; simp at hcx; omega))).three
                  simp [DepsOf, factAt, Fx, Region.binds] at hd
                  refine ⟨?_, ?_⟩
                  focus (go_simp; done)
                  simp only [factAt, List.getD_cons_zero, List.getD_cons_succ]
                  refine Gives.mk ?_
                  go_simp
                  first | exact ⟨jb_other (by decide) (Keep.refl _), Fx.self _ _⟩ | (go_at_call 28; exact jb_call (by decide) (hic.out _)) | (go_at_call 29; exact jb_call (by decide) (htx.out _)))
             | (refine StepsG.skip _ _ _ (by decide) (fun v w2 hd => ⟨?_, fun _ => rfl⟩) ?_
                focus
                  simp [DepsOf, factAt, Fx, Region.binds] at hd
                  go_simp; done)
           first
             | (apply StepsG.run
                focus
                  intro v w2 b hb hJ hd
                  have hgw := hJ.1
                  have hgz := hgw.size
                  obtain ⟨hC_0, hC_1, hC_2, hC_3, hC_4, hC_5, hC_6⟩ := (hC.grownBy hgw (by first | (simp; omega) | (simp; done) | (intro hcx; simp at hcx; omega))).three
                  obtain rfl := hb rfl
                  have hJ2 := hJ.2
                  simp only [Bool.false_eq_true, if_false] at hJ2
                  have hJs := hJ2.three
                  simp [DepsOf, factAt, Fx, Region.binds] at hd
                  refine ⟨?_, ?_⟩
                  focus (go_simp; done)
                  simp only [factAt, List.getD_cons_zero, List.getD_cons_succ]
                  refine Gives.mk ?_
                  go_simp
                  exact ⟨jb_store hgw (grown_trans (grown_trans (grown_set1 _ _ _ _) (grown_set1 _ _ _ _)) (grown_set1 _ _ _ _)) (Bx.set (Bx.set (Bx.set hJ2 _) _) _), rfl⟩)
           first
             | (apply StepsG.run
                focus
                  intro v w2 b hb hJ hd
                  have hgw := hJ.1
                  have hgz := hgw.size
                  obtain ⟨hC_0, hC_1, hC_2, hC_3, hC_4, hC_5, hC_6⟩ := (hC.grownBy hgw (by first | (simp; omega) | (simp; done) | (intro hcx; simp at hcx; omega))).three
                  simp [DepsOf, factAt, Fx, Region.binds] at hd
                  refine ⟨?_, ?_⟩
                  focus (go_simp; done)
                  simp only [factAt, List.getD_cons_zero, List.getD_cons_succ]
                  refine Gives.mk ?_
                  go_simp
                  first | exact ⟨jb_other (by decide) (Keep.refl _), Fx.self _ _⟩ | (go_at_call 28; exact jb_call (by decide) (hic.out _)) | (go_at_call 29; exact jb_call (by decide) (htx.out _)))
             | (refine StepsG.skip _ _ _ (by decide) (fun v w2 hd => ⟨?_, fun _ => rfl⟩) ?_
                focus
                  simp [DepsOf, factAt, Fx, Region.binds] at hd
                  go_simp; done)
           exact StepsG.nil _
         simp only [List.take_succ_cons, List.take_zero, List.drop_succ_cons, List.drop_zero, putAll, Act.put, List.setIfInBounds_toArray, List.set_cons_succ, List.set_cons_zero, Nat.zero_add, Nat.reduceAdd]
         intro v w2 hJ hh
         have hgw := hJ.1
         have hgz := hgw.size
         have hB2 := hJ.2
         simp only [if_true] at hB2
         obtain ⟨hC_0, hC_1, hC_2, hC_3, hC_4, hC_5, hC_6⟩ := (hC.grownBy hgw (by first | (simp; omega) | (simp; done) | (intro hcx; simp at hcx; omega))).three
         simp only [List.length_cons, List.length_nil, Nat.zero_add, Nat.reduceAdd, Held, factAt, List.getD_cons_zero, List.getD_cons_succ, Fx, true_and] at hh
         obtain ⟨⟨⟨⟨⟨⟨⟨⟨⟨⟨v_0, v_1⟩, v_2⟩, v_3⟩, v_4⟩, v_5⟩, v_6⟩, v_7⟩, v_8⟩, v_9⟩, v_10⟩ := hh
         simp only [v_0, v_1, v_2, v_3, v_4, v_5, v_6, v_7, v_8, v_10]
         have hBs := hB2.three
         have kk : Keep w w2 := kg.grown hgw (fun k hk => by simp at hk; omega)
         go_wp2
         (apply bodyPost_ret; rotate_left; rfl; exact ⟨n, a, b, rfl, HID.out, (by ((repeat (first | (with_reducible assumption) | ((with_reducible refine Keep.setCell ?_ ?_ _); rotate_left; focus (first | omega | (simp; done) | (simp; omega))) | (with_reducible refine Keep.alloc ?_ _) | (with_reducible refine Keep.drewN ?_ _) | (with_reducible refine Keep.drew ?_) | (with_reducible exact Keep.refl _) | refine Keep.trans ?_ (by with_reducible assumption) | exact Keep.refl _ | assumption))))⟩; simp [results, Tryz.results13, go_sem, U_zero, hfin, *])
end Go.Proofs.YtagldpbmadfokaaGreatDoor
