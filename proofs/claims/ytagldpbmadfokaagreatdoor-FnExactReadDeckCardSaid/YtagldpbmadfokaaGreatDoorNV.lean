/- Numbers read out of words: the walks. -/
import Derived.Test.YtagldpbmadfokaaGreatDoorNU
import Derived.Shelf.Strconv.ParseIntPublic10
import Derived.Shelf.Strings.SplitShaped
import Derived.Lib.AppendIntMem
set_option linter.unusedVariables false
set_option linter.unusedSimpArgs false
namespace Go.Proofs.YtagldpbmadfokaaGreatDoor
open Go.RowKit Go.Shelf
set_option maxHeartbeats 2000000
set_option maxRecDepth 20000
def piLays_ren : Go.Shelf.Ren := ⟨fun | 174 => 40 | 247 => 51 | 245 => 52 | 287 => 60 | 279 => 61 | 280 => 62 | 281 => 63 | 282 => 64 | 321 => 81 | 322 => 82 | 316 => 83 | 171 => 85 | 205 => 84 | 243 => 96 | 246 => 53 | 283 => 65 | 284 => 66 | 285 => 67 | 286 => 68 | 129 => 87 | 317 => 86 | 318 => 88 | 319 => 89 | 320 => 90 | 337 => 97 | 338 => 98 | n => n, fun | 9 => 9 | 3 => 3 | 2 => 2 | 75 => 66 | 85 => 67 | 4 => 4 | 167 => 83 | 5 => 5 | 53 => 30 | 175 => 84 | 46 => 72 | 168 => 86 | 37 => 58 | 0 => 0 | 210 => 105 | 21 => 21 | 127 => 121 | 145 => 124 | 143 => 122 | 171 => 89 | 173 => 92 | 212 => 108 | 51 => 109 | 20 => 20 | 213 => 110 | 232 => 127 | 233 => 128 | 80 => 132 | n => n, fun | 15 => 1 | 16 => 2 | 17 => 3 | 18 => 6 | 19 => 7 | n => n⟩
theorem piLays : Go.Proofs.LaysC.n174 Tryz.prog piLays_ren := {
  mixed := by kernel_rfl
  f129 := Tryz.func87.trans (congrArg some (by kernel_rfl))
  f171 := Tryz.func85.trans (congrArg some (by kernel_rfl))
  f174 := Tryz.func40.trans (congrArg some (by kernel_rfl))
  f205 := Tryz.func84.trans (congrArg some (by kernel_rfl))
  f243 := Tryz.func96.trans (congrArg some (by kernel_rfl))
  f245 := Tryz.func52.trans (congrArg some (by kernel_rfl))
  f246 := Tryz.func53.trans (congrArg some (by kernel_rfl))
  f247 := Tryz.func51.trans (congrArg some (by kernel_rfl))
  f279 := Tryz.func61.trans (congrArg some (by kernel_rfl))
  f280 := Tryz.func62.trans (congrArg some (by kernel_rfl))
  f281 := Tryz.func63.trans (congrArg some (by kernel_rfl))
  f282 := Tryz.func64.trans (congrArg some (by kernel_rfl))
  f283 := Tryz.func65.trans (congrArg some (by kernel_rfl))
  f284 := Tryz.func66.trans (congrArg some (by kernel_rfl))
  f285 := Tryz.func67.trans (congrArg some (by kernel_rfl))
  f286 := Tryz.func68.trans (congrArg some (by kernel_rfl))
  f287 := Tryz.func60.trans (congrArg some (by kernel_rfl))
  f316 := Tryz.func83.trans (congrArg some (by kernel_rfl))
  f317 := Tryz.func86.trans (congrArg some (by kernel_rfl))
  f318 := Tryz.func88.trans (congrArg some (by kernel_rfl))
  f319 := Tryz.func89.trans (congrArg some (by kernel_rfl))
  f320 := Tryz.func90.trans (congrArg some (by kernel_rfl))
  f321 := Tryz.func81.trans (congrArg some (by kernel_rfl))
  f322 := Tryz.func82.trans (congrArg some (by kernel_rfl))
  f337 := Tryz.func97.trans (congrArg some (by kernel_rfl))
  f338 := Tryz.func98.trans (congrArg some (by kernel_rfl))
  t0 := Tryz.underlying0
  a0 := Tryz.isAgg0
  z0 := Tryz.sizeOf0
  v0 := Tryz.zeroValue0
  t2 := Tryz.underlying2
  a2 := Tryz.isAgg2
  z2 := Tryz.sizeOf2
  v2 := Tryz.zeroValue2
  t3 := Tryz.underlying3
  a3 := Tryz.isAgg3
  z3 := Tryz.sizeOf3
  v3 := Tryz.zeroValue3
  t4 := Tryz.underlying4
  a4 := Tryz.isAgg4
  z4 := Tryz.sizeOf4
  v4 := Tryz.zeroValue4
  t5 := Tryz.underlying5
  a5 := Tryz.isAgg5
  z5 := Tryz.sizeOf5
  v5 := Tryz.zeroValue5
  t9 := Tryz.underlying9
  a9 := Tryz.isAgg9
  z9 := Tryz.sizeOf9
  v9 := Tryz.zeroValue9
  t20 := Tryz.underlying20
  a20 := Tryz.isAgg20
  z20 := Tryz.sizeOf20
  v20 := Tryz.zeroValue20
  t21 := Tryz.underlying21
  a21 := Tryz.isAgg21
  z21 := Tryz.sizeOf21
  v21 := Tryz.zeroValue21
  t37 := Tryz.underlying58
  a37 := Tryz.isAgg58
  z37 := Tryz.sizeOf58
  v37 := Tryz.zeroValue58
  t46 := Tryz.underlying72
  a46 := Tryz.isAgg72
  z46 := Tryz.sizeOf72
  v46 := Tryz.zeroValue72
  t51 := Tryz.underlying109
  a51 := Tryz.isAgg109
  z51 := Tryz.sizeOf109
  v51 := Tryz.zeroValue109
  t53 := Tryz.underlying30
  a53 := Tryz.isAgg30
  z53 := Tryz.sizeOf30
  v53 := Tryz.zeroValue30
  t75 := Tryz.underlying66
  a75 := Tryz.isAgg66
  z75 := Tryz.sizeOf66
  v75 := Tryz.zeroValue66
  t85 := Tryz.underlying67
  a85 := Tryz.isAgg67
  z85 := Tryz.sizeOf67
  v85 := Tryz.zeroValue67
  t127 := Tryz.underlying121
  a127 := Tryz.isAgg121
  z127 := Tryz.sizeOf121
  v127 := Tryz.zeroValue121
  t143 := Tryz.underlying122
  a143 := Tryz.isAgg122
  z143 := Tryz.sizeOf122
  v143 := Tryz.zeroValue122
  t145 := Tryz.underlying124
  a145 := Tryz.isAgg124
  z145 := Tryz.sizeOf124
  v145 := Tryz.zeroValue124
  t167 := Tryz.underlying83
  a167 := Tryz.isAgg83
  z167 := Tryz.sizeOf83
  v167 := Tryz.zeroValue83
  t168 := Tryz.underlying86
  a168 := Tryz.isAgg86
  z168 := Tryz.sizeOf86
  v168 := Tryz.zeroValue86
  t171 := Tryz.underlying89
  a171 := Tryz.isAgg89
  z171 := Tryz.sizeOf89
  v171 := Tryz.zeroValue89
  t173 := Tryz.underlying92
  a173 := Tryz.isAgg92
  z173 := Tryz.sizeOf92
  v173 := Tryz.zeroValue92
  t175 := Tryz.underlying84
  a175 := Tryz.isAgg84
  z175 := Tryz.sizeOf84
  v175 := Tryz.zeroValue84
  t210 := Tryz.underlying105
  a210 := Tryz.isAgg105
  z210 := Tryz.sizeOf105
  v210 := Tryz.zeroValue105
  t212 := Tryz.underlying108
  a212 := Tryz.isAgg108
  z212 := Tryz.sizeOf108
  v212 := Tryz.zeroValue108
  t213 := Tryz.underlying110
  a213 := Tryz.isAgg110
  z213 := Tryz.sizeOf110
  t232 := Tryz.underlying127
  a232 := Tryz.isAgg127
  z232 := Tryz.sizeOf127
  v232 := Tryz.zeroValue127
  t233 := Tryz.underlying128
  a233 := Tryz.isAgg128
  z233 := Tryz.sizeOf128
  v233 := Tryz.zeroValue128
  g15 := by kernel_rfl
  g16 := by kernel_rfl
  g17 := by kernel_rfl
  g18 := by kernel_rfl
  g19 := by kernel_rfl
  t80 := Tryz.underlying132
  a80 := Tryz.isAgg132
  z80 := Tryz.sizeOf132
  v80 := Tryz.zeroValue132
  i0 := by kernel_rfl
  i2 := by kernel_rfl
  i3 := by kernel_rfl
  i4 := by kernel_rfl
  i5 := by kernel_rfl
  i9 := by kernel_rfl
  i20 := by kernel_rfl
  i21 := by kernel_rfl
  i37 := by kernel_rfl
  i46 := by kernel_rfl
  i51 := by kernel_rfl
  i53 := by kernel_rfl
  i75 := by kernel_rfl
  i80 := by kernel_rfl
  i85 := by kernel_rfl
  i127 := by kernel_rfl
  i143 := by kernel_rfl
  i145 := by kernel_rfl
  i167 := by kernel_rfl
  i168 := by kernel_rfl
  i171 := by kernel_rfl
  i173 := by kernel_rfl
  i175 := by kernel_rfl
  i210 := by kernel_rfl
  i212 := by kernel_rfl
  i232 := by kernel_rfl
  i233 := by kernel_rfl
  m15 := by kernel_rfl
  m16 := by kernel_rfl
  m17 := by kernel_rfl
  m18 := by kernel_rfl
  m19 := by kernel_rfl
  c0 := by kernel_rfl
  c2 := by kernel_rfl
  c3 := by kernel_rfl
  c4 := by kernel_rfl
  c5 := by kernel_rfl
  c9 := by kernel_rfl
  c20 := by kernel_rfl
  c21 := by kernel_rfl
  c37 := by kernel_rfl
  c46 := by kernel_rfl
  c51 := by kernel_rfl
  c53 := by kernel_rfl
  c75 := by kernel_rfl
  c80 := by kernel_rfl
  c85 := by kernel_rfl
  c127 := by kernel_rfl
  c143 := by kernel_rfl
  c145 := by kernel_rfl
  c167 := by kernel_rfl
  c168 := by kernel_rfl
  c171 := by kernel_rfl
  c173 := by kernel_rfl
  c175 := by kernel_rfl
  c210 := by kernel_rfl
  c212 := by kernel_rfl
  c213 := by kernel_rfl
  c232 := by kernel_rfl
  c233 := by kernel_rfl }
def itoaLaysM_ren : Go.Shelf.Ren := ⟨fun | 173 => 41 | 246 => 53 | 283 => 65 | 284 => 66 | 285 => 67 | 286 => 68 | 129 => 87 | 317 => 86 | 318 => 88 | 319 => 89 | 320 => 90 | 337 => 97 | 338 => 98 | n => n, fun | 2 => 2 | 3 => 3 | 9 => 9 | 4 => 4 | 171 => 89 | 0 => 0 | 53 => 30 | 37 => 58 | 5 => 5 | 173 => 92 | 212 => 108 | 51 => 109 | 20 => 20 | 213 => 110 | 46 => 72 | 232 => 127 | 233 => 128 | n => n, fun | 17 => 3 | 18 => 6 | 19 => 7 | n => n⟩
theorem itoaLaysM : Go.Proofs.LaysM.n173 Tryz.prog itoaLaysM_ren := {
  mixed := by kernel_rfl
  f129 := Tryz.func87.trans (congrArg some (by kernel_rfl))
  f173 := Tryz.func41.trans (congrArg some (by kernel_rfl))
  f246 := Tryz.func53.trans (congrArg some (by kernel_rfl))
  f283 := Tryz.func65.trans (congrArg some (by kernel_rfl))
  f284 := Tryz.func66.trans (congrArg some (by kernel_rfl))
  f285 := Tryz.func67.trans (congrArg some (by kernel_rfl))
  f286 := Tryz.func68.trans (congrArg some (by kernel_rfl))
  f317 := Tryz.func86.trans (congrArg some (by kernel_rfl))
  f318 := Tryz.func88.trans (congrArg some (by kernel_rfl))
  f319 := Tryz.func89.trans (congrArg some (by kernel_rfl))
  f320 := Tryz.func90.trans (congrArg some (by kernel_rfl))
  f337 := Tryz.func97.trans (congrArg some (by kernel_rfl))
  f338 := Tryz.func98.trans (congrArg some (by kernel_rfl))
  t0 := Tryz.underlying0
  a0 := Tryz.isAgg0
  z0 := Tryz.sizeOf0
  v0 := Tryz.zeroValue0
  t2 := Tryz.underlying2
  a2 := Tryz.isAgg2
  z2 := Tryz.sizeOf2
  v2 := Tryz.zeroValue2
  t3 := Tryz.underlying3
  a3 := Tryz.isAgg3
  z3 := Tryz.sizeOf3
  v3 := Tryz.zeroValue3
  t4 := Tryz.underlying4
  a4 := Tryz.isAgg4
  z4 := Tryz.sizeOf4
  v4 := Tryz.zeroValue4
  t5 := Tryz.underlying5
  a5 := Tryz.isAgg5
  z5 := Tryz.sizeOf5
  v5 := Tryz.zeroValue5
  t9 := Tryz.underlying9
  a9 := Tryz.isAgg9
  z9 := Tryz.sizeOf9
  v9 := Tryz.zeroValue9
  t20 := Tryz.underlying20
  a20 := Tryz.isAgg20
  z20 := Tryz.sizeOf20
  v20 := Tryz.zeroValue20
  t37 := Tryz.underlying58
  a37 := Tryz.isAgg58
  z37 := Tryz.sizeOf58
  v37 := Tryz.zeroValue58
  t46 := Tryz.underlying72
  a46 := Tryz.isAgg72
  z46 := Tryz.sizeOf72
  v46 := Tryz.zeroValue72
  t51 := Tryz.underlying109
  a51 := Tryz.isAgg109
  z51 := Tryz.sizeOf109
  v51 := Tryz.zeroValue109
  t53 := Tryz.underlying30
  a53 := Tryz.isAgg30
  z53 := Tryz.sizeOf30
  v53 := Tryz.zeroValue30
  t171 := Tryz.underlying89
  a171 := Tryz.isAgg89
  z171 := Tryz.sizeOf89
  v171 := Tryz.zeroValue89
  t173 := Tryz.underlying92
  a173 := Tryz.isAgg92
  z173 := Tryz.sizeOf92
  v173 := Tryz.zeroValue92
  t212 := Tryz.underlying108
  a212 := Tryz.isAgg108
  z212 := Tryz.sizeOf108
  v212 := Tryz.zeroValue108
  t213 := Tryz.underlying110
  a213 := Tryz.isAgg110
  z213 := Tryz.sizeOf110
  t232 := Tryz.underlying127
  a232 := Tryz.isAgg127
  z232 := Tryz.sizeOf127
  v232 := Tryz.zeroValue127
  t233 := Tryz.underlying128
  a233 := Tryz.isAgg128
  z233 := Tryz.sizeOf128
  v233 := Tryz.zeroValue128
  g17 := by kernel_rfl
  g18 := by kernel_rfl
  g19 := by kernel_rfl
  i0 := by kernel_rfl
  i2 := by kernel_rfl
  i3 := by kernel_rfl
  i4 := by kernel_rfl
  i5 := by kernel_rfl
  i9 := by kernel_rfl
  i20 := by kernel_rfl
  i37 := by kernel_rfl
  i46 := by kernel_rfl
  i51 := by kernel_rfl
  i53 := by kernel_rfl
  i171 := by kernel_rfl
  i173 := by kernel_rfl
  i212 := by kernel_rfl
  i232 := by kernel_rfl
  i233 := by kernel_rfl
  m17 := by kernel_rfl
  m18 := by kernel_rfl
  m19 := by kernel_rfl }
def splitLays_ren : Go.Shelf.Ren := ⟨fun | 146 => 24 | 221 => 39 | 268 => 48 | 138 => 49 | 143 => 50 | 195 => 56 | 197 => 57 | 218 => 58 | 219 => 59 | 260 => 76 | 217 => 77 | 225 => 78 | 224 => 79 | 267 => 80 | 266 => 94 | 314 => 95 | n => n, fun | 9 => 9 | 31 => 28 | 3 => 3 | 4 => 4 | 0 => 0 | 105 => 80 | 21 => 21 | 5 => 5 | 46 => 72 | 119 => 115 | 139 => 118 | 138 => 117 | 146 => 119 | 51 => 109 | n => n, fun | 1 => 0 | 3 => 4 | 4 => 5 | n => n⟩
theorem splitLays : Go.Proofs.LaysM.n146 Tryz.prog splitLays_ren := {
  mixed := by kernel_rfl
  f138 := Tryz.func49.trans (congrArg some (by kernel_rfl))
  f143 := Tryz.func50.trans (congrArg some (by kernel_rfl))
  f146 := Tryz.func24.trans (congrArg some (by kernel_rfl))
  f195 := Tryz.func56.trans (congrArg some (by kernel_rfl))
  f197 := Tryz.func57.trans (congrArg some (by kernel_rfl))
  f217 := Tryz.func77.trans (congrArg some (by kernel_rfl))
  f218 := Tryz.func58.trans (congrArg some (by kernel_rfl))
  f219 := Tryz.func59.trans (congrArg some (by kernel_rfl))
  f221 := Tryz.func39.trans (congrArg some (by kernel_rfl))
  f224 := Tryz.func79.trans (congrArg some (by kernel_rfl))
  f225 := Tryz.func78.trans (congrArg some (by kernel_rfl))
  f260 := Tryz.func76.trans (congrArg some (by kernel_rfl))
  f266 := Tryz.func94.trans (congrArg some (by kernel_rfl))
  f267 := Tryz.func80.trans (congrArg some (by kernel_rfl))
  f268 := Tryz.func48.trans (congrArg some (by kernel_rfl))
  f314 := Tryz.func95.trans (congrArg some (by kernel_rfl))
  t0 := Tryz.underlying0
  a0 := Tryz.isAgg0
  z0 := Tryz.sizeOf0
  v0 := Tryz.zeroValue0
  t3 := Tryz.underlying3
  a3 := Tryz.isAgg3
  z3 := Tryz.sizeOf3
  v3 := Tryz.zeroValue3
  t4 := Tryz.underlying4
  a4 := Tryz.isAgg4
  z4 := Tryz.sizeOf4
  v4 := Tryz.zeroValue4
  t5 := Tryz.underlying5
  a5 := Tryz.isAgg5
  z5 := Tryz.sizeOf5
  v5 := Tryz.zeroValue5
  t9 := Tryz.underlying9
  a9 := Tryz.isAgg9
  z9 := Tryz.sizeOf9
  v9 := Tryz.zeroValue9
  t21 := Tryz.underlying21
  a21 := Tryz.isAgg21
  z21 := Tryz.sizeOf21
  v21 := Tryz.zeroValue21
  t31 := Tryz.underlying28
  a31 := Tryz.isAgg28
  z31 := Tryz.sizeOf28
  v31 := Tryz.zeroValue28
  t46 := Tryz.underlying72
  a46 := Tryz.isAgg72
  z46 := Tryz.sizeOf72
  v46 := Tryz.zeroValue72
  t51 := Tryz.underlying109
  a51 := Tryz.isAgg109
  z51 := Tryz.sizeOf109
  v51 := Tryz.zeroValue109
  t105 := Tryz.underlying80
  a105 := Tryz.isAgg80
  z105 := Tryz.sizeOf80
  v105 := Tryz.zeroValue80
  t119 := Tryz.underlying115
  a119 := Tryz.isAgg115
  z119 := Tryz.sizeOf115
  t138 := Tryz.underlying117
  a138 := Tryz.isAgg117
  z138 := Tryz.sizeOf117
  v138 := Tryz.zeroValue117
  t139 := Tryz.underlying118
  a139 := Tryz.isAgg118
  z139 := Tryz.sizeOf118
  v139 := Tryz.zeroValue118
  t146 := Tryz.underlying119
  a146 := Tryz.isAgg119
  z146 := Tryz.sizeOf119
  v146 := Tryz.zeroValue119
  g1 := by kernel_rfl
  g3 := by kernel_rfl
  g4 := by kernel_rfl
  i0 := by kernel_rfl
  i3 := by kernel_rfl
  i4 := by kernel_rfl
  i5 := by kernel_rfl
  i9 := by kernel_rfl
  i21 := by kernel_rfl
  i31 := by kernel_rfl
  i46 := by kernel_rfl
  i51 := by kernel_rfl
  i105 := by kernel_rfl
  i138 := by kernel_rfl
  i139 := by kernel_rfl
  i146 := by kernel_rfl
  m1 := by kernel_rfl
  s1_3 := fun w h => Go.Proofs.cell_of_shapedOpen_int (zero := #[.int .i64 0]) (t := 3) h (of_decide_eq_true (by kernel_rfl)) (by kernel_rfl) rfl (by kernel_rfl) (by kernel_rfl) Tryz.underlying3
  m3 := by kernel_rfl
  m4 := by kernel_rfl }
/-- What the library's own variables hold. -/
structure Gs (w : World) : Prop where
  e1 : ∃ ev, w.cell? ⟨1, 0, none⟩ = some ev ∧ (ev = .nilIface ∨ ∃ te pe, ev = .iface te pe)
  e2 : ∃ ev, w.cell? ⟨2, 0, none⟩ = some ev ∧ (ev = .nilIface ∨ ∃ te pe, ev = .iface te pe)
  m : ∃ m, w.cell? ⟨0, 0, none⟩ = some (.int .i64 m)
  tab : Lib.TabIs Tryz.prog w "internal/strconv.uint64pow10" .u64 Lib.pow10Tab
theorem tab_keep {P : Program} {w w' : World} {n : String} {k : IntKind} {zs : List Int} (h : Lib.TabIs P w n k zs) (kk : Keep w w') : Lib.TabIs P w' n k zs := by
  unfold Lib.TabIs World.var? at *
  cases hg : P.globalNamed n with
  | none => simp [hg] at h
  | some g =>
    simp only [hg, Option.bind_some] at h ⊢
    have hlt : g < w.heap.size := by
      rcases Nat.lt_or_ge g w.heap.size with h' | h'
      · exact h'
      · simp [Array.getElem?_eq_none h'] at h
    rw [kk.out.block g hlt]; exact h
theorem Gs.keep {w w' : World} (h : Gs w) (k : Keep w w') : Gs w' :=
  ⟨let ⟨ev, a, b⟩ := h.e1; ⟨ev, k.cell a, b⟩, let ⟨ev, a, b⟩ := h.e2; ⟨ev, k.cell a, b⟩, let ⟨m, a⟩ := h.m; ⟨m, k.cell a⟩, tab_keep h.tab k⟩
theorem bytes_eq {s t : ByteArray} (h : s.toList = t.toList) : s = t := by
  rw [ByteArray.toList_eq, ByteArray.toList_eq] at h
  cases s; cases t; simp at h; rw [h]
/-- What the program's reader of numbers returns. -/
def nuV (s : ByteArray) : Int := match Lib.parseIntB 64 s.data.toList with
  | .ok v => v
  | .range => Lib.intSat 64 s.data.toList
  | _ => 0
def nuB (s : ByteArray) : Bool := match Lib.parseIntB 64 s.data.toList with
  | .ok v => decide (0 ≤ v) && ((decS v).toList == s.toList)
  | _ => false
theorem nu_rdN (s : ByteArray) : rdN s (nuV s) (nuB s) := by
  refine rdN_of (fun hb h0 h1 => ?_) (fun n hn e => ?_)
  · unfold nuB at hb
    unfold nuV
    cases hp : Lib.parseIntB 64 s.data.toList with
    | ok v =>
      rw [hp] at hb
      simp only [Bool.and_eq_true] at hb
      have h2 : decS v = s := bytes_eq (by simpa using hb.2)
      exact h2.symm
    | _ => rw [hp] at hb; cases hb
  · have hp := parse_dec n hn
    rw [← e] at hp
    unfold nuV nuB
    rw [hp]
    refine ⟨rfl, ?_⟩
    simp [e]
theorem impl_readNumber (s : ByteArray) (w : World) (hs : s.size ≤ 1048576) (hg : Gs w) :
    Calls Tryz.prog 25 #[.string s] w fun e w' => e = .returned (.tuple #[.int .i64 (nuV s), .bool (nuB s)]) ∧ Keep w w' := by
  cases hp : Lib.parseIntB 64 s.data.toList with
  | ok v =>
    obtain ⟨b0, b1⟩ := Lib.parseIntB_bounds hp
    have b2 : -9223372036854775808 ≤ v := by simpa using b0
    have b3 : v < 9223372036854775808 := by simpa using b1
    have hP := Aside.mk (fun W => Any.strconv_ParseInt_10_at64_ok piLays s (by omega) v hp W)
    have e1 : nuV s = v := by unfold nuV; rw [hp]
    by_cases v0 : 0 ≤ v
    · have e2 : nuB s = ((decS v).toList == s.toList) := by unfold nuB; rw [hp]; simp [v0]
      have hF := Aside.mk (fun W h => Any.strconv_FormatInt_10 itoaLaysM v b2 (by omega) W h)
      have eI : (⟨(Lib.itoa v).toArray⟩ : ByteArray) = decS v := by unfold Lib.itoa decS; rw [if_neg (by omega)]
      rw [eI] at hF
      rw [e1, e2]
      clear eI e1 e2 hp b0 b1
      generalize decS v = t at *
      go_enter Tryz.func25, Tryz.ntmps25
      (go_wp2_with fail); (go_at_call 40); (refine (hP.out _).mono ?_); rintro e w1 ⟨rfl, hk1⟩
      have k1 : Keep w w1 := by
        rcases hk1 with rfl | ⟨t, rfl⟩
        · exact Keep.refl _
        · exact ⟨Lib.bytesWorld_below _ _ _⟩
      clear hk1
      (go_wp2_with fail); (go_at_call 41); (refine (hF.out _ (tab_keep hg.tab k1)).mono ?_); rintro e w2 ⟨rfl, hk2⟩
      have k2 : Keep w w2 := by
        obtain ⟨k, os, rfl⟩ := hk2
        exact k1.trans ⟨Lib.below_grow _ _ (Nat.le_refl _) k os⟩
      clear hk2
      go_wp2
      (apply bodyPost_ret; rotate_left; rfl; exact ⟨rfl, (by ((repeat (first | (with_reducible assumption) | ((with_reducible refine Keep.setCell ?_ ?_ _); rotate_left; focus (first | omega | (simp; done) | (simp; omega))) | (with_reducible refine Keep.alloc ?_ _) | (with_reducible refine Keep.drewN ?_ _) | (with_reducible refine Keep.drew ?_) | (with_reducible exact Keep.refl _) | refine Keep.trans ?_ (by with_reducible assumption) | exact Keep.refl _ | assumption))))⟩; simp [results, Tryz.results25, go_sem, U_zero, *])
    · have e2 : nuB s = false := by unfold nuB; rw [hp]; simp [v0]
      rw [e1, e2]
      clear e1 e2 hp b0 b1
      go_enter Tryz.func25, Tryz.ntmps25
      (go_wp2_with fail); (go_at_call 40); (refine (hP.out _).mono ?_); rintro e w1 ⟨rfl, hk1⟩
      have k1 : Keep w w1 := by
        rcases hk1 with rfl | ⟨t, rfl⟩
        · exact Keep.refl _
        · exact ⟨Lib.bytesWorld_below _ _ _⟩
      clear hk1
      go_wp2
      (apply bodyPost_ret; rotate_left; rfl; exact ⟨rfl, (by ((repeat (first | (with_reducible assumption) | ((with_reducible refine Keep.setCell ?_ ?_ _); rotate_left; focus (first | omega | (simp; done) | (simp; omega))) | (with_reducible refine Keep.alloc ?_ _) | (with_reducible refine Keep.drewN ?_ _) | (with_reducible refine Keep.drew ?_) | (with_reducible exact Keep.refl _) | refine Keep.trans ?_ (by with_reducible assumption) | exact Keep.refl _ | assumption))))⟩; simp [results, Tryz.results25, go_sem, U_zero, *])
  | range =>
    obtain ⟨ev, hv, hev⟩ := hg.e2
    have hP := Aside.mk (fun W h => Any.strconv_ParseInt_10_at64_range piLays s (by omega) hp ev W h hev)
    have e1 : nuV s = Lib.intSat 64 s.data.toList := by unfold nuV; rw [hp]
    have e2 : nuB s = false := by unfold nuB; rw [hp]
    rw [e1, e2]
    clear hp e1 e2
    generalize Lib.intSat 64 s.data.toList = v at *
    go_enter Tryz.func25, Tryz.ntmps25
    (go_wp2_with fail); (go_at_call 40); (refine (hP.out _ hv).mono ?_); rintro e w1 ⟨N, rfl, _, _, hk1⟩
    have k1 : Keep w w1 := ⟨hk1⟩
    clear hk1
    go_wp2
    (apply bodyPost_ret; rotate_left; rfl; exact ⟨rfl, (by ((repeat (first | (with_reducible assumption) | ((with_reducible refine Keep.setCell ?_ ?_ _); rotate_left; focus (first | omega | (simp; done) | (simp; omega))) | (with_reducible refine Keep.alloc ?_ _) | (with_reducible refine Keep.drewN ?_ _) | (with_reducible refine Keep.drew ?_) | (with_reducible exact Keep.refl _) | refine Keep.trans ?_ (by with_reducible assumption) | exact Keep.refl _ | assumption))))⟩; simp [results, Tryz.results25, go_sem, U_zero, *])
  | _ =>
    obtain ⟨ev, hv, hev⟩ := hg.e1
    have hP := Aside.mk (fun W h => Any.strconv_ParseInt_10_at64_syntax piLays s (by omega) hp ev W h hev)
    have e1 : nuV s = 0 := by unfold nuV; rw [hp]
    have e2 : nuB s = false := by unfold nuB; rw [hp]
    rw [e1, e2]
    clear hp e1 e2
    go_enter Tryz.func25, Tryz.ntmps25
    (go_wp2_with fail); (go_at_call 40); (refine (hP.out _ hv).mono ?_); rintro e w1 ⟨N, rfl, _, _, hk1⟩
    have k1 : Keep w w1 := ⟨hk1⟩
    clear hk1
    go_wp2
    (apply bodyPost_ret; rotate_left; rfl; exact ⟨rfl, (by ((repeat (first | (with_reducible assumption) | ((with_reducible refine Keep.setCell ?_ ?_ _); rotate_left; focus (first | omega | (simp; done) | (simp; omega))) | (with_reducible refine Keep.alloc ?_ _) | (with_reducible refine Keep.drewN ?_ _) | (with_reducible refine Keep.drew ?_) | (with_reducible exact Keep.refl _) | refine Keep.trans ?_ (by with_reducible assumption) | exact Keep.refl _ | assumption))))⟩; simp [results, Tryz.results25, go_sem, U_zero, *])
theorem nm_no {l : List UInt8} (h : nmB l = false) : nmV l = 0 := by unfold nmV; rw [h]; rfl
theorem dg_take {s : ByteArray} {i : Nat} (h : i < s.size) : (s.data.toList.take (i + 1)).all dgB = ((s.data.toList.take i).all dgB && dgB s[i]) := by
  have h' : i < s.data.toList.length := by simpa using h
  rw [List.take_succ_eq_append_getElem h', List.all_append]
  simp
  rfl
theorem dg_not {s : ByteArray} {i : Nat} (h : i < s.size) (hb : dgB s[i] = false) : nmB s.data.toList = false := by
  have h' : i < s.data.toList.length := by simpa using h
  have : s.data.toList.all dgB = false := by
    rw [List.all_eq_false]
    exact ⟨s.data.toList[i], List.getElem_mem h', by
      have e : s.data.toList[i] = s[i] := by simp; rfl
      rw [e, hb]; decide⟩
  simp [nmB, this]
theorem vl_take {s : ByteArray} {i : Nat} (h : i < s.size) : vlN (s.data.toList.take (i + 1)) = 10 * vlN (s.data.toList.take i) + (s[i].toNat - 48) := by
  have h' : i < s.data.toList.length := by simpa using h
  rw [vl_succ h']
  have e : s.data.toList[i] = s[i] := by simp; rfl
  rw [e]
theorem spec_l01Number (s : ByteArray) (w : World) (hs : s.size ≤ 9223372036854775807) :
    Calls Tryz.prog 17 #[.string s] w fun e w' => e = .returned (.tuple #[.int .i64 (((nmV s.data.toList : Nat) : Int)), .bool (nmB s.data.toList)]) ∧ Keep w w' := by
  have hsl : s.data.toList.length = s.size := by simp
  by_cases h0 : s.size = 0
  · obtain rfl : s = ⟨#[]⟩ := by
      apply ByteArray.ext
      exact Array.eq_empty_of_size_eq_zero h0
    have e1 : nmB (⟨#[]⟩ : ByteArray).data.toList = false := rfl
    rw [e1, nm_no e1]
    go_enter Tryz.func17, Tryz.ntmps17
    go_wp2
    (apply bodyPost_ret; rotate_left; rfl; exact ⟨rfl, (by ((repeat (first | (with_reducible assumption) | ((with_reducible refine Keep.setCell ?_ ?_ _); rotate_left; focus (first | omega | (simp; done) | (simp; omega))) | (with_reducible refine Keep.alloc ?_ _) | (with_reducible refine Keep.drewN ?_ _) | (with_reducible refine Keep.drew ?_) | (with_reducible exact Keep.refl _) | refine Keep.trans ?_ (by with_reducible assumption) | exact Keep.refl _ | assumption))))⟩; simp [results, Tryz.results17, go_sem, U_zero, *])
  · have hem : s.toList.isEmpty = false := by rw [← decide_eq_emptyBytes]; exact decide_eq_false (fun h => h0 (by rw [h]; rfl))
    by_cases h10 : (10 : Int) < s.size
    · have e1 : nmB s.data.toList = false := by
        unfold nmB
        rw [hsl, show decide (s.size ≤ 10) = false from decide_eq_false (by omega)]; simp
      rw [e1, nm_no e1]
      clear e1 hsl
      go_enter Tryz.func17, Tryz.ntmps17
      go_wp2
      clear h0 hem h10
      (apply bodyPost_ret; rotate_left; rfl; exact ⟨rfl, (by ((repeat (first | (with_reducible assumption) | ((with_reducible refine Keep.setCell ?_ ?_ _); rotate_left; focus (first | omega | (simp; done) | (simp; omega))) | (with_reducible refine Keep.alloc ?_ _) | (with_reducible refine Keep.drewN ?_ _) | (with_reducible refine Keep.drew ?_) | (with_reducible exact Keep.refl _) | refine Keep.trans ?_ (by with_reducible assumption) | exact Keep.refl _ | assumption))))⟩; simp [results, Tryz.results17, go_sem, U_zero, *])
    · have hp : 0 < s.size := by omega
      have hh : s.data.toList.head? = some s[0] := by
        rw [List.head?_eq_getElem?, List.getElem?_eq_getElem (by omega)]; simp; rfl
      by_cases hz : (s[0].toNat : Int) = 48 ∧ (1 : Int) < s.size
      · obtain ⟨hz1, hz2⟩ := hz
        have e1 : nmB s.data.toList = false := by
          have e : s[0] = 48 := by rw [← UInt8.toNat_inj]; exact (by omega : s[0].toNat = 48)
          unfold nmB
          rw [hsl, hh, e, show decide (1 < s.size) = true from decide_eq_true (by omega)]; simp
        rw [e1, nm_no e1]
        clear hh e1 hsl
        go_enter Tryz.func17, Tryz.ntmps17
        go_wp2
        clear h0 hem h10 hz1 hz2 hp
        (apply bodyPost_ret; rotate_left; rfl; exact ⟨rfl, (by ((repeat (first | (with_reducible assumption) | ((with_reducible refine Keep.setCell ?_ ?_ _); rotate_left; focus (first | omega | (simp; done) | (simp; omega))) | (with_reducible refine Keep.alloc ?_ _) | (with_reducible refine Keep.drewN ?_ _) | (with_reducible refine Keep.drew ?_) | (with_reducible exact Keep.refl _) | refine Keep.trans ?_ (by with_reducible assumption) | exact Keep.refl _ | assumption))))⟩; simp [results, Tryz.results17, go_sem, U_zero, *])
      · have HB : Aside (s.data.toList.all dgB = true → nmB s.data.toList = true) := Aside.mk (fun h => by
          have e : (decide (s.data.toList.head? = some 48) && decide (1 < s.data.toList.length)) = false := by
            rw [hh, hsl]
            by_cases q : 1 < s.size
            · have q1 : ¬ s[0] = 48 := fun e => hz ⟨by rw [e]; rfl, by omega⟩
              simp [q1]
            · simp [q]
          unfold nmB
          rw [e, h, hsl]
          have : s.data.toList ≠ [] := fun e => by rw [e] at hsl; simp at hsl; omega
          simp [this]; omega)
        have HW := Aside.mk hp
        have hzc : (¬ (s[0].toNat : Int) = 48) ∨ (s[0].toNat : Int) = 48 ∧ ¬ (1 : Int) < s.size := by
          by_cases q : (s[0].toNat : Int) = 48
          · exact .inr ⟨q, fun h => hz ⟨q, h⟩⟩
          · exact .inl q
        clear hh hz
        rcases hzc with hz1 | ⟨hz1, hz2⟩
        all_goals
          go_enter Tryz.func17, Tryz.ntmps17
          go_wp2_with fail
          go_loopg [4, 5] s.size (fun k v4 v5 wr => ∃ i : Nat, i + k = s.size ∧ v4 = .int .i64 ((vlN (s.data.toList.take i) : Nat) : Int) ∧ v5 = .int .i64 i ∧ (s.data.toList.take i).all dgB = true ∧ Keep w wr)
          case atStart => exact ⟨0, by omega, rfl, rfl, rfl, (by ((repeat (first | (with_reducible assumption) | ((with_reducible refine Keep.setCell ?_ ?_ _); rotate_left; focus (first | omega | (simp; done) | (simp; omega))) | (with_reducible refine Keep.alloc ?_ _) | (with_reducible refine Keep.drewN ?_ _) | (with_reducible refine Keep.drew ?_) | (with_reducible exact Keep.refl _) | refine Keep.trans ?_ (by with_reducible assumption) | exact Keep.refl _ | assumption))))⟩
          case round =>
            obtain ⟨i, hi, rfl, rfl, hall, hk⟩ := hrel
            have HL := Aside.mk hall
            by_cases hlt : i < s.size
            · have hT := dg_take hlt
              rw [HL.out, Bool.true_and] at hT
              have HT := Aside.mk hT
              have HN := Aside.mk (dg_not hlt)
              have HV := Aside.mk (vl_take hlt)
              have hvb : vlN (s.data.toList.take i) < 1000000000 := Nat.lt_of_lt_of_le (vl_bound hall) (show 10 ^ (s.data.toList.take i).length ≤ 10 ^ 9 from Nat.pow_le_pow_right (by omega) (by rw [List.length_take]; omega))
              clear hT hall hsl
              generalize vlN (s.data.toList.take i) = m at *
              by_cases c1 : (s[i].toNat : Int) < 48
              · have e1 := HN.out (by unfold dgB; simp; omega)
                have E := Aside.mk (nm_no e1)
                have E1 := Aside.mk e1
                clear e1 HN HT HV
                go_wp2
                (apply bodyPost_ret; rotate_left; rfl; exact ⟨rfl, (by ((repeat (first | (with_reducible assumption) | ((with_reducible refine Keep.setCell ?_ ?_ _); rotate_left; focus (first | omega | (simp; done) | (simp; omega))) | (with_reducible refine Keep.alloc ?_ _) | (with_reducible refine Keep.drewN ?_ _) | (with_reducible refine Keep.drew ?_) | (with_reducible exact Keep.refl _) | refine Keep.trans ?_ (by with_reducible assumption) | exact Keep.refl _ | assumption))))⟩; simp [results, Tryz.results17, go_sem, U_zero, *])
                exact ⟨by rw [E.out]; rfl, by rw [E1.out]⟩
              · by_cases c2 : (57 : Int) < s[i].toNat
                · have e1 := HN.out (by unfold dgB; simp; omega)
                  have E := Aside.mk (nm_no e1)
                  have E1 := Aside.mk e1
                  clear e1 HN HT HV
                  go_wp2
                  (apply bodyPost_ret; rotate_left; rfl; exact ⟨rfl, (by ((repeat (first | (with_reducible assumption) | ((with_reducible refine Keep.setCell ?_ ?_ _); rotate_left; focus (first | omega | (simp; done) | (simp; omega))) | (with_reducible refine Keep.alloc ?_ _) | (with_reducible refine Keep.drewN ?_ _) | (with_reducible refine Keep.drew ?_) | (with_reducible exact Keep.refl _) | refine Keep.trans ?_ (by with_reducible assumption) | exact Keep.refl _ | assumption))))⟩; simp [results, Tryz.results17, go_sem, U_zero, *])
                  exact ⟨by rw [E.out]; rfl, by rw [E1.out]⟩
                · have hb : dgB s[i] = true := by unfold dgB; simp; omega
                  rw [hb] at HT
                  have hx1 : (48 : Int) ≤ s[i].toNat := by omega
                  have hx2 : (s[i].toNat : Int) ≤ 57 := by omega
                  clear hb HN
                  have HVI : Aside (((vlN (s.data.toList.take (i + 1)) : Nat) : Int) = 10 * (m : Int) + ((s[i].toNat : Int) - 48)) := Aside.mk (by rw [HV.out]; omega)
                  have q1 : IntKind.i64.wrap (10 * (m : Int)) = 10 * (m : Int) := wrapI64 ⟨by omega, by omega⟩
                  have q2 : IntKind.u8.wrap ((s[i].toNat : Int) - 48) = (s[i].toNat : Int) - 48 := by rw [IntKind.wrap_u8]; omega
                  have q3 : IntKind.i64.wrap ((s[i].toNat : Int) - 48) = (s[i].toNat : Int) - 48 := wrapI64 ⟨by omega, by omega⟩
                  have q4 : IntKind.i64.wrap (10 * (m : Int) + ((s[i].toNat : Int) - 48)) = 10 * (m : Int) + ((s[i].toNat : Int) - 48) := wrapI64 ⟨by omega, by omega⟩
                  clear HV
                  go_wp2
                  go_roundg (s.size - (i + 1))
                  case measure => omega
                  case rel => exact ⟨i + 1, by omega, by rw [HVI.out], by go_num, HT.out, (by ((repeat (first | (with_reducible assumption) | ((with_reducible refine Keep.setCell ?_ ?_ _); rotate_left; focus (first | omega | (simp; done) | (simp; omega))) | (with_reducible refine Keep.alloc ?_ _) | (with_reducible refine Keep.drewN ?_ _) | (with_reducible refine Keep.drew ?_) | (with_reducible exact Keep.refl _) | refine Keep.trans ?_ (by with_reducible assumption) | exact Keep.refl _ | assumption))))⟩
            · obtain rfl : i = s.size := by omega
              have hal : s.data.toList.all dgB = true := by
                have := HL.out
                rwa [List.take_of_length_le (by simp)] at this
              have e1 := HB.out hal
              have E : Aside (nmV s.data.toList = vlN (s.data.toList.take s.size)) := Aside.mk (by unfold nmV; rw [e1, cond_true, List.take_of_length_le (by simp)])
              have E1 := Aside.mk e1
              clear e1 hal HB HL hall
              go_wp2
              (apply bodyPost_ret; rotate_left; rfl; exact ⟨rfl, (by ((repeat (first | (with_reducible assumption) | ((with_reducible refine Keep.setCell ?_ ?_ _); rotate_left; focus (first | omega | (simp; done) | (simp; omega))) | (with_reducible refine Keep.alloc ?_ _) | (with_reducible refine Keep.drewN ?_ _) | (with_reducible refine Keep.drew ?_) | (with_reducible exact Keep.refl _) | refine Keep.trans ?_ (by with_reducible assumption) | exact Keep.refl _ | assumption))))⟩; simp [results, Tryz.results17, go_sem, U_zero, *])
              exact ⟨by rw [E.out], by rw [E1.out]⟩
end Go.Proofs.YtagldpbmadfokaaGreatDoor
