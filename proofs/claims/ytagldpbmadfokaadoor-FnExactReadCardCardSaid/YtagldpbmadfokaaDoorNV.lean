/- Numbers read out of words: the walks. -/
import Derived.Test.YtagldpbmadfokaaDoorNU
import Derived.Shelf.Strconv.ParseIntPublic10
import Derived.Shelf.Strings.SplitShaped
import Derived.Lib.AppendIntMem
set_option linter.unusedVariables false
set_option linter.unusedSimpArgs false
namespace Go.Proofs.YtagldpbmadfokaaDoor
open Go.RowKit Go.Shelf
set_option maxHeartbeats 2000000
set_option maxRecDepth 20000
def piLays_ren : Go.Shelf.Ren := ⟨fun | 174 => 55 | 247 => 70 | 245 => 71 | 287 => 84 | 279 => 85 | 280 => 86 | 281 => 87 | 282 => 88 | 321 => 98 | 322 => 99 | 316 => 100 | 171 => 102 | 205 => 101 | 243 => 107 | 246 => 52 | 283 => 63 | 284 => 64 | 285 => 65 | 286 => 66 | 129 => 77 | 317 => 76 | 318 => 78 | 319 => 79 | 320 => 80 | 337 => 92 | 338 => 93 | n => n, fun | 9 => 9 | 3 => 3 | 2 => 2 | 75 => 77 | 85 => 78 | 4 => 4 | 167 => 109 | 5 => 5 | 53 => 22 | 175 => 110 | 46 => 70 | 168 => 112 | 37 => 72 | 0 => 0 | 210 => 120 | 21 => 21 | 127 => 131 | 145 => 134 | 143 => 132 | 171 => 88 | 173 => 91 | 212 => 102 | 51 => 103 | 20 => 20 | 213 => 104 | 232 => 127 | 233 => 128 | 80 => 137 | n => n, fun | 15 => 2 | 16 => 3 | 17 => 0 | 18 => 6 | 19 => 7 | n => n⟩
theorem piLays : Go.Proofs.LaysC.n174 Tryd.prog piLays_ren := {
  mixed := by kernel_rfl
  f129 := Tryd.func77.trans (congrArg some (by kernel_rfl))
  f171 := Tryd.func102.trans (congrArg some (by kernel_rfl))
  f174 := Tryd.func55.trans (congrArg some (by kernel_rfl))
  f205 := Tryd.func101.trans (congrArg some (by kernel_rfl))
  f243 := Tryd.func107.trans (congrArg some (by kernel_rfl))
  f245 := Tryd.func71.trans (congrArg some (by kernel_rfl))
  f246 := Tryd.func52.trans (congrArg some (by kernel_rfl))
  f247 := Tryd.func70.trans (congrArg some (by kernel_rfl))
  f279 := Tryd.func85.trans (congrArg some (by kernel_rfl))
  f280 := Tryd.func86.trans (congrArg some (by kernel_rfl))
  f281 := Tryd.func87.trans (congrArg some (by kernel_rfl))
  f282 := Tryd.func88.trans (congrArg some (by kernel_rfl))
  f283 := Tryd.func63.trans (congrArg some (by kernel_rfl))
  f284 := Tryd.func64.trans (congrArg some (by kernel_rfl))
  f285 := Tryd.func65.trans (congrArg some (by kernel_rfl))
  f286 := Tryd.func66.trans (congrArg some (by kernel_rfl))
  f287 := Tryd.func84.trans (congrArg some (by kernel_rfl))
  f316 := Tryd.func100.trans (congrArg some (by kernel_rfl))
  f317 := Tryd.func76.trans (congrArg some (by kernel_rfl))
  f318 := Tryd.func78.trans (congrArg some (by kernel_rfl))
  f319 := Tryd.func79.trans (congrArg some (by kernel_rfl))
  f320 := Tryd.func80.trans (congrArg some (by kernel_rfl))
  f321 := Tryd.func98.trans (congrArg some (by kernel_rfl))
  f322 := Tryd.func99.trans (congrArg some (by kernel_rfl))
  f337 := Tryd.func92.trans (congrArg some (by kernel_rfl))
  f338 := Tryd.func93.trans (congrArg some (by kernel_rfl))
  t0 := Tryd.underlying0
  a0 := Tryd.isAgg0
  z0 := Tryd.sizeOf0
  v0 := Tryd.zeroValue0
  t2 := Tryd.underlying2
  a2 := Tryd.isAgg2
  z2 := Tryd.sizeOf2
  v2 := Tryd.zeroValue2
  t3 := Tryd.underlying3
  a3 := Tryd.isAgg3
  z3 := Tryd.sizeOf3
  v3 := Tryd.zeroValue3
  t4 := Tryd.underlying4
  a4 := Tryd.isAgg4
  z4 := Tryd.sizeOf4
  v4 := Tryd.zeroValue4
  t5 := Tryd.underlying5
  a5 := Tryd.isAgg5
  z5 := Tryd.sizeOf5
  v5 := Tryd.zeroValue5
  t9 := Tryd.underlying9
  a9 := Tryd.isAgg9
  z9 := Tryd.sizeOf9
  v9 := Tryd.zeroValue9
  t20 := Tryd.underlying20
  a20 := Tryd.isAgg20
  z20 := Tryd.sizeOf20
  v20 := Tryd.zeroValue20
  t21 := Tryd.underlying21
  a21 := Tryd.isAgg21
  z21 := Tryd.sizeOf21
  v21 := Tryd.zeroValue21
  t37 := Tryd.underlying72
  a37 := Tryd.isAgg72
  z37 := Tryd.sizeOf72
  v37 := Tryd.zeroValue72
  t46 := Tryd.underlying70
  a46 := Tryd.isAgg70
  z46 := Tryd.sizeOf70
  v46 := Tryd.zeroValue70
  t51 := Tryd.underlying103
  a51 := Tryd.isAgg103
  z51 := Tryd.sizeOf103
  v51 := Tryd.zeroValue103
  t53 := Tryd.underlying22
  a53 := Tryd.isAgg22
  z53 := Tryd.sizeOf22
  v53 := Tryd.zeroValue22
  t75 := Tryd.underlying77
  a75 := Tryd.isAgg77
  z75 := Tryd.sizeOf77
  v75 := Tryd.zeroValue77
  t85 := Tryd.underlying78
  a85 := Tryd.isAgg78
  z85 := Tryd.sizeOf78
  v85 := Tryd.zeroValue78
  t127 := Tryd.underlying131
  a127 := Tryd.isAgg131
  z127 := Tryd.sizeOf131
  v127 := Tryd.zeroValue131
  t143 := Tryd.underlying132
  a143 := Tryd.isAgg132
  z143 := Tryd.sizeOf132
  v143 := Tryd.zeroValue132
  t145 := Tryd.underlying134
  a145 := Tryd.isAgg134
  z145 := Tryd.sizeOf134
  v145 := Tryd.zeroValue134
  t167 := Tryd.underlying109
  a167 := Tryd.isAgg109
  z167 := Tryd.sizeOf109
  v167 := Tryd.zeroValue109
  t168 := Tryd.underlying112
  a168 := Tryd.isAgg112
  z168 := Tryd.sizeOf112
  v168 := Tryd.zeroValue112
  t171 := Tryd.underlying88
  a171 := Tryd.isAgg88
  z171 := Tryd.sizeOf88
  v171 := Tryd.zeroValue88
  t173 := Tryd.underlying91
  a173 := Tryd.isAgg91
  z173 := Tryd.sizeOf91
  v173 := Tryd.zeroValue91
  t175 := Tryd.underlying110
  a175 := Tryd.isAgg110
  z175 := Tryd.sizeOf110
  v175 := Tryd.zeroValue110
  t210 := Tryd.underlying120
  a210 := Tryd.isAgg120
  z210 := Tryd.sizeOf120
  v210 := Tryd.zeroValue120
  t212 := Tryd.underlying102
  a212 := Tryd.isAgg102
  z212 := Tryd.sizeOf102
  v212 := Tryd.zeroValue102
  t213 := Tryd.underlying104
  a213 := Tryd.isAgg104
  z213 := Tryd.sizeOf104
  t232 := Tryd.underlying127
  a232 := Tryd.isAgg127
  z232 := Tryd.sizeOf127
  v232 := Tryd.zeroValue127
  t233 := Tryd.underlying128
  a233 := Tryd.isAgg128
  z233 := Tryd.sizeOf128
  v233 := Tryd.zeroValue128
  g15 := by kernel_rfl
  g16 := by kernel_rfl
  g17 := by kernel_rfl
  g18 := by kernel_rfl
  g19 := by kernel_rfl
  t80 := Tryd.underlying137
  a80 := Tryd.isAgg137
  z80 := Tryd.sizeOf137
  v80 := Tryd.zeroValue137
  i0 := by kernel_rfl
  i2 := by kernel_rfl
  i3 := by kernel_rfl
  i4 := by kernel_rfl
  i5 := by kernel_rfl
  i9 := by kernel_rfl
  i20 := by kernel_rfl
  i21 := by kernel_rfl
  i37 := by kernel_rfl
  i46 := by kernel_rfl
  i51 := by kernel_rfl
  i53 := by kernel_rfl
  i75 := by kernel_rfl
  i80 := by kernel_rfl
  i85 := by kernel_rfl
  i127 := by kernel_rfl
  i143 := by kernel_rfl
  i145 := by kernel_rfl
  i167 := by kernel_rfl
  i168 := by kernel_rfl
  i171 := by kernel_rfl
  i173 := by kernel_rfl
  i175 := by kernel_rfl
  i210 := by kernel_rfl
  i212 := by kernel_rfl
  i232 := by kernel_rfl
  i233 := by kernel_rfl
  m15 := by kernel_rfl
  m16 := by kernel_rfl
  m17 := by kernel_rfl
  m18 := by kernel_rfl
  m19 := by kernel_rfl
  c0 := by kernel_rfl
  c2 := by kernel_rfl
  c3 := by kernel_rfl
  c4 := by kernel_rfl
  c5 := by kernel_rfl
  c9 := by kernel_rfl
  c20 := by kernel_rfl
  c21 := by kernel_rfl
  c37 := by kernel_rfl
  c46 := by kernel_rfl
  c51 := by kernel_rfl
  c53 := by kernel_rfl
  c75 := by kernel_rfl
  c80 := by kernel_rfl
  c85 := by kernel_rfl
  c127 := by kernel_rfl
  c143 := by kernel_rfl
  c145 := by kernel_rfl
  c167 := by kernel_rfl
  c168 := by kernel_rfl
  c171 := by kernel_rfl
  c173 := by kernel_rfl
  c175 := by kernel_rfl
  c210 := by kernel_rfl
  c212 := by kernel_rfl
  c213 := by kernel_rfl
  c232 := by kernel_rfl
  c233 := by kernel_rfl }
def itoaLaysM_ren : Go.Shelf.Ren := ⟨fun | 173 => 36 | 246 => 52 | 283 => 63 | 284 => 64 | 285 => 65 | 286 => 66 | 129 => 77 | 317 => 76 | 318 => 78 | 319 => 79 | 320 => 80 | 337 => 92 | 338 => 93 | n => n, fun | 2 => 2 | 3 => 3 | 9 => 9 | 4 => 4 | 171 => 88 | 0 => 0 | 53 => 22 | 37 => 72 | 5 => 5 | 173 => 91 | 212 => 102 | 51 => 103 | 20 => 20 | 213 => 104 | 46 => 70 | 232 => 127 | 233 => 128 | n => n, fun | 17 => 0 | 18 => 6 | 19 => 7 | n => n⟩
theorem itoaLaysM : Go.Proofs.LaysM.n173 Tryd.prog itoaLaysM_ren := {
  mixed := by kernel_rfl
  f129 := Tryd.func77.trans (congrArg some (by kernel_rfl))
  f173 := Tryd.func36.trans (congrArg some (by kernel_rfl))
  f246 := Tryd.func52.trans (congrArg some (by kernel_rfl))
  f283 := Tryd.func63.trans (congrArg some (by kernel_rfl))
  f284 := Tryd.func64.trans (congrArg some (by kernel_rfl))
  f285 := Tryd.func65.trans (congrArg some (by kernel_rfl))
  f286 := Tryd.func66.trans (congrArg some (by kernel_rfl))
  f317 := Tryd.func76.trans (congrArg some (by kernel_rfl))
  f318 := Tryd.func78.trans (congrArg some (by kernel_rfl))
  f319 := Tryd.func79.trans (congrArg some (by kernel_rfl))
  f320 := Tryd.func80.trans (congrArg some (by kernel_rfl))
  f337 := Tryd.func92.trans (congrArg some (by kernel_rfl))
  f338 := Tryd.func93.trans (congrArg some (by kernel_rfl))
  t0 := Tryd.underlying0
  a0 := Tryd.isAgg0
  z0 := Tryd.sizeOf0
  v0 := Tryd.zeroValue0
  t2 := Tryd.underlying2
  a2 := Tryd.isAgg2
  z2 := Tryd.sizeOf2
  v2 := Tryd.zeroValue2
  t3 := Tryd.underlying3
  a3 := Tryd.isAgg3
  z3 := Tryd.sizeOf3
  v3 := Tryd.zeroValue3
  t4 := Tryd.underlying4
  a4 := Tryd.isAgg4
  z4 := Tryd.sizeOf4
  v4 := Tryd.zeroValue4
  t5 := Tryd.underlying5
  a5 := Tryd.isAgg5
  z5 := Tryd.sizeOf5
  v5 := Tryd.zeroValue5
  t9 := Tryd.underlying9
  a9 := Tryd.isAgg9
  z9 := Tryd.sizeOf9
  v9 := Tryd.zeroValue9
  t20 := Tryd.underlying20
  a20 := Tryd.isAgg20
  z20 := Tryd.sizeOf20
  v20 := Tryd.zeroValue20
  t37 := Tryd.underlying72
  a37 := Tryd.isAgg72
  z37 := Tryd.sizeOf72
  v37 := Tryd.zeroValue72
  t46 := Tryd.underlying70
  a46 := Tryd.isAgg70
  z46 := Tryd.sizeOf70
  v46 := Tryd.zeroValue70
  t51 := Tryd.underlying103
  a51 := Tryd.isAgg103
  z51 := Tryd.sizeOf103
  v51 := Tryd.zeroValue103
  t53 := Tryd.underlying22
  a53 := Tryd.isAgg22
  z53 := Tryd.sizeOf22
  v53 := Tryd.zeroValue22
  t171 := Tryd.underlying88
  a171 := Tryd.isAgg88
  z171 := Tryd.sizeOf88
  v171 := Tryd.zeroValue88
  t173 := Tryd.underlying91
  a173 := Tryd.isAgg91
  z173 := Tryd.sizeOf91
  v173 := Tryd.zeroValue91
  t212 := Tryd.underlying102
  a212 := Tryd.isAgg102
  z212 := Tryd.sizeOf102
  v212 := Tryd.zeroValue102
  t213 := Tryd.underlying104
  a213 := Tryd.isAgg104
  z213 := Tryd.sizeOf104
  t232 := Tryd.underlying127
  a232 := Tryd.isAgg127
  z232 := Tryd.sizeOf127
  v232 := Tryd.zeroValue127
  t233 := Tryd.underlying128
  a233 := Tryd.isAgg128
  z233 := Tryd.sizeOf128
  v233 := Tryd.zeroValue128
  g17 := by kernel_rfl
  g18 := by kernel_rfl
  g19 := by kernel_rfl
  i0 := by kernel_rfl
  i2 := by kernel_rfl
  i3 := by kernel_rfl
  i4 := by kernel_rfl
  i5 := by kernel_rfl
  i9 := by kernel_rfl
  i20 := by kernel_rfl
  i37 := by kernel_rfl
  i46 := by kernel_rfl
  i51 := by kernel_rfl
  i53 := by kernel_rfl
  i171 := by kernel_rfl
  i173 := by kernel_rfl
  i212 := by kernel_rfl
  i232 := by kernel_rfl
  i233 := by kernel_rfl
  m17 := by kernel_rfl
  m18 := by kernel_rfl
  m19 := by kernel_rfl }
def splitLays_ren : Go.Shelf.Ren := ⟨fun | 146 => 44 | 221 => 54 | 268 => 67 | 138 => 68 | 143 => 69 | 195 => 81 | 197 => 73 | 218 => 82 | 219 => 83 | 260 => 89 | 217 => 94 | 225 => 95 | 224 => 96 | 267 => 97 | 266 => 105 | 314 => 106 | n => n, fun | 9 => 9 | 31 => 60 | 3 => 3 | 4 => 4 | 0 => 0 | 105 => 97 | 21 => 21 | 5 => 5 | 46 => 70 | 119 => 122 | 139 => 125 | 138 => 124 | 146 => 129 | 51 => 103 | n => n, fun | 1 => 1 | 3 => 4 | 4 => 5 | n => n⟩
theorem splitLays : Go.Proofs.LaysM.n146 Tryd.prog splitLays_ren := {
  mixed := by kernel_rfl
  f138 := Tryd.func68.trans (congrArg some (by kernel_rfl))
  f143 := Tryd.func69.trans (congrArg some (by kernel_rfl))
  f146 := Tryd.func44.trans (congrArg some (by kernel_rfl))
  f195 := Tryd.func81.trans (congrArg some (by kernel_rfl))
  f197 := Tryd.func73.trans (congrArg some (by kernel_rfl))
  f217 := Tryd.func94.trans (congrArg some (by kernel_rfl))
  f218 := Tryd.func82.trans (congrArg some (by kernel_rfl))
  f219 := Tryd.func83.trans (congrArg some (by kernel_rfl))
  f221 := Tryd.func54.trans (congrArg some (by kernel_rfl))
  f224 := Tryd.func96.trans (congrArg some (by kernel_rfl))
  f225 := Tryd.func95.trans (congrArg some (by kernel_rfl))
  f260 := Tryd.func89.trans (congrArg some (by kernel_rfl))
  f266 := Tryd.func105.trans (congrArg some (by kernel_rfl))
  f267 := Tryd.func97.trans (congrArg some (by kernel_rfl))
  f268 := Tryd.func67.trans (congrArg some (by kernel_rfl))
  f314 := Tryd.func106.trans (congrArg some (by kernel_rfl))
  t0 := Tryd.underlying0
  a0 := Tryd.isAgg0
  z0 := Tryd.sizeOf0
  v0 := Tryd.zeroValue0
  t3 := Tryd.underlying3
  a3 := Tryd.isAgg3
  z3 := Tryd.sizeOf3
  v3 := Tryd.zeroValue3
  t4 := Tryd.underlying4
  a4 := Tryd.isAgg4
  z4 := Tryd.sizeOf4
  v4 := Tryd.zeroValue4
  t5 := Tryd.underlying5
  a5 := Tryd.isAgg5
  z5 := Tryd.sizeOf5
  v5 := Tryd.zeroValue5
  t9 := Tryd.underlying9
  a9 := Tryd.isAgg9
  z9 := Tryd.sizeOf9
  v9 := Tryd.zeroValue9
  t21 := Tryd.underlying21
  a21 := Tryd.isAgg21
  z21 := Tryd.sizeOf21
  v21 := Tryd.zeroValue21
  t31 := Tryd.underlying60
  a31 := Tryd.isAgg60
  z31 := Tryd.sizeOf60
  v31 := Tryd.zeroValue60
  t46 := Tryd.underlying70
  a46 := Tryd.isAgg70
  z46 := Tryd.sizeOf70
  v46 := Tryd.zeroValue70
  t51 := Tryd.underlying103
  a51 := Tryd.isAgg103
  z51 := Tryd.sizeOf103
  v51 := Tryd.zeroValue103
  t105 := Tryd.underlying97
  a105 := Tryd.isAgg97
  z105 := Tryd.sizeOf97
  v105 := Tryd.zeroValue97
  t119 := Tryd.underlying122
  a119 := Tryd.isAgg122
  z119 := Tryd.sizeOf122
  t138 := Tryd.underlying124
  a138 := Tryd.isAgg124
  z138 := Tryd.sizeOf124
  v138 := Tryd.zeroValue124
  t139 := Tryd.underlying125
  a139 := Tryd.isAgg125
  z139 := Tryd.sizeOf125
  v139 := Tryd.zeroValue125
  t146 := Tryd.underlying129
  a146 := Tryd.isAgg129
  z146 := Tryd.sizeOf129
  v146 := Tryd.zeroValue129
  g1 := by kernel_rfl
  g3 := by kernel_rfl
  g4 := by kernel_rfl
  i0 := by kernel_rfl
  i3 := by kernel_rfl
  i4 := by kernel_rfl
  i5 := by kernel_rfl
  i9 := by kernel_rfl
  i21 := by kernel_rfl
  i31 := by kernel_rfl
  i46 := by kernel_rfl
  i51 := by kernel_rfl
  i105 := by kernel_rfl
  i138 := by kernel_rfl
  i139 := by kernel_rfl
  i146 := by kernel_rfl
  m1 := by kernel_rfl
  s1_3 := fun w h => Go.Proofs.cell_of_shapedOpen_int (zero := #[.int .i64 0]) (t := 3) h (of_decide_eq_true (by kernel_rfl)) (by kernel_rfl) rfl (by kernel_rfl) (by kernel_rfl) Tryd.underlying3
  m3 := by kernel_rfl
  m4 := by kernel_rfl }
/-- What the library's own variables hold. -/
structure Gs (w : World) : Prop where
  e1 : ∃ ev, w.cell? ⟨2, 0, none⟩ = some ev ∧ (ev = .nilIface ∨ ∃ te pe, ev = .iface te pe)
  e2 : ∃ ev, w.cell? ⟨3, 0, none⟩ = some ev ∧ (ev = .nilIface ∨ ∃ te pe, ev = .iface te pe)
  m : ∃ m, w.cell? ⟨1, 0, none⟩ = some (.int .i64 m)
  tab : Lib.TabIs Tryd.prog w "internal/strconv.uint64pow10" .u64 Lib.pow10Tab
theorem tab_keep {P : Program} {w w' : World} {n : String} {k : IntKind} {zs : List Int} (h : Lib.TabIs P w n k zs) (kk : Keep w w') : Lib.TabIs P w' n k zs := by
  unfold Lib.TabIs World.var? at *
  cases hg : P.globalNamed n with
  | none => simp [hg] at h
  | some g =>
    simp only [hg, Option.bind_some] at h ⊢
    have hlt : g < w.heap.size := by
      rcases Nat.lt_or_ge g w.heap.size with h' | h'
      · exact h'
      · simp [Array.getElem?_eq_none h'] at h
    rw [kk.out.block g hlt]; exact h
theorem Gs.keep {w w' : World} (h : Gs w) (k : Keep w w') : Gs w' :=
  ⟨let ⟨ev, a, b⟩ := h.e1; ⟨ev, k.cell a, b⟩, let ⟨ev, a, b⟩ := h.e2; ⟨ev, k.cell a, b⟩, let ⟨m, a⟩ := h.m; ⟨m, k.cell a⟩, tab_keep h.tab k⟩
theorem bytes_eq {s t : ByteArray} (h : s.toList = t.toList) : s = t := by
  rw [ByteArray.toList_eq, ByteArray.toList_eq] at h
  cases s; cases t; simp at h; rw [h]
/-- What the program's reader of numbers returns. -/
def nuV (s : ByteArray) : Int := match Lib.parseIntB 64 s.data.toList with
  | .ok v => v
  | .range => Lib.intSat 64 s.data.toList
  | _ => 0
def nuB (s : ByteArray) : Bool := match Lib.parseIntB 64 s.data.toList with
  | .ok v => decide (0 ≤ v) && ((decS v).toList == s.toList)
  | _ => false
theorem nu_rdN (s : ByteArray) : rdN s (nuV s) (nuB s) := by
  refine rdN_of (fun hb h0 h1 => ?_) (fun n hn e => ?_)
  · unfold nuB at hb
    unfold nuV
    cases hp : Lib.parseIntB 64 s.data.toList with
    | ok v =>
      rw [hp] at hb
      simp only [Bool.and_eq_true] at hb
      have h2 : decS v = s := bytes_eq (by simpa using hb.2)
      exact h2.symm
    | _ => rw [hp] at hb; cases hb
  · have hp := parse_dec n hn
    rw [← e] at hp
    unfold nuV nuB
    rw [hp]
    refine ⟨rfl, ?_⟩
    simp [e]
theorem impl_readNumber (s : ByteArray) (w : World) (hs : s.size ≤ 1048576) (hg : Gs w) :
    Calls Tryd.prog 45 #[.string s] w fun e w' => e = .returned (.tuple #[.int .i64 (nuV s), .bool (nuB s)]) ∧ Keep w w' := by
  cases hp : Lib.parseIntB 64 s.data.toList with
  | ok v =>
    obtain ⟨b0, b1⟩ := Lib.parseIntB_bounds hp
    have b2 : -9223372036854775808 ≤ v := by simpa using b0
    have b3 : v < 9223372036854775808 := by simpa using b1
    have hP := Aside.mk (fun W => Any.strconv_ParseInt_10_at64_ok piLays s (by omega) v hp W)
    have e1 : nuV s = v := by unfold nuV; rw [hp]
    by_cases v0 : 0 ≤ v
    · have e2 : nuB s = ((decS v).toList == s.toList) := by unfold nuB; rw [hp]; simp [v0]
      have hF := Aside.mk (fun W h => Any.strconv_FormatInt_10 itoaLaysM v b2 (by omega) W h)
      have eI : (⟨(Lib.itoa v).toArray⟩ : ByteArray) = decS v := by unfold Lib.itoa decS; rw [if_neg (by omega)]
      rw [eI] at hF
      rw [e1, e2]
      clear eI e1 e2 hp b0 b1
      generalize decS v = t at *
      go_enter Tryd.func45, Tryd.ntmps45
      (go_wp2_with fail); (go_at_call 55); (refine (hP.out _).mono ?_); rintro e w1 ⟨rfl, hk1⟩
      have k1 : Keep w w1 := by
        rcases hk1 with rfl | ⟨t, rfl⟩
        · exact Keep.refl _
        · exact ⟨Lib.bytesWorld_below _ _ _⟩
      clear hk1
      (go_wp2_with fail); (go_at_call 36); (refine (hF.out _ (tab_keep hg.tab k1)).mono ?_); rintro e w2 ⟨rfl, hk2⟩
      have k2 : Keep w w2 := by
        obtain ⟨k, os, rfl⟩ := hk2
        exact k1.trans ⟨Lib.below_grow _ _ (Nat.le_refl _) k os⟩
      clear hk2
      go_wp2
      (apply bodyPost_ret; rotate_left; rfl; exact ⟨rfl, (by ((repeat (first | (with_reducible assumption) | ((with_reducible refine Keep.setCell ?_ ?_ _); rotate_left; focus (first | omega | (simp; done) | (simp; omega))) | (with_reducible refine Keep.alloc ?_ _) | (with_reducible refine Keep.drewN ?_ _) | (with_reducible refine Keep.drew ?_) | (with_reducible exact Keep.refl _) | refine Keep.trans ?_ (by with_reducible assumption) | exact Keep.refl _ | assumption))))⟩; simp [results, Tryd.results45, go_sem, U_zero, *])
    · have e2 : nuB s = false := by unfold nuB; rw [hp]; simp [v0]
      rw [e1, e2]
      clear e1 e2 hp b0 b1
      go_enter Tryd.func45, Tryd.ntmps45
      (go_wp2_with fail); (go_at_call 55); (refine (hP.out _).mono ?_); rintro e w1 ⟨rfl, hk1⟩
      have k1 : Keep w w1 := by
        rcases hk1 with rfl | ⟨t, rfl⟩
        · exact Keep.refl _
        · exact ⟨Lib.bytesWorld_below _ _ _⟩
      clear hk1
      go_wp2
      (apply bodyPost_ret; rotate_left; rfl; exact ⟨rfl, (by ((repeat (first | (with_reducible assumption) | ((with_reducible refine Keep.setCell ?_ ?_ _); rotate_left; focus (first | omega | (simp; done) | (simp; omega))) | (with_reducible refine Keep.alloc ?_ _) | (with_reducible refine Keep.drewN ?_ _) | (with_reducible refine Keep.drew ?_) | (with_reducible exact Keep.refl _) | refine Keep.trans ?_ (by with_reducible assumption) | exact Keep.refl _ | assumption))))⟩; simp [results, Tryd.results45, go_sem, U_zero, *])
  | range =>
    obtain ⟨ev, hv, hev⟩ := hg.e2
    have hP := Aside.mk (fun W h => Any.strconv_ParseInt_10_at64_range piLays s (by omega) hp ev W h hev)
    have e1 : nuV s = Lib.intSat 64 s.data.toList := by unfold nuV; rw [hp]
    have e2 : nuB s = false := by unfold nuB; rw [hp]
    rw [e1, e2]
    clear hp e1 e2
    generalize Lib.intSat 64 s.data.toList = v at *
    go_enter Tryd.func45, Tryd.ntmps45
    (go_wp2_with fail); (go_at_call 55); (refine (hP.out _ hv).mono ?_); rintro e w1 ⟨N, rfl, _, _, hk1⟩
    have k1 : Keep w w1 := ⟨hk1⟩
    clear hk1
    go_wp2
    (apply bodyPost_ret; rotate_left; rfl; exact ⟨rfl, (by ((repeat (first | (with_reducible assumption) | ((with_reducible refine Keep.setCell ?_ ?_ _); rotate_left; focus (first | omega | (simp; done) | (simp; omega))) | (with_reducible refine Keep.alloc ?_ _) | (with_reducible refine Keep.drewN ?_ _) | (with_reducible refine Keep.drew ?_) | (with_reducible exact Keep.refl _) | refine Keep.trans ?_ (by with_reducible assumption) | exact Keep.refl _ | assumption))))⟩; simp [results, Tryd.results45, go_sem, U_zero, *])
  | _ =>
    obtain ⟨ev, hv, hev⟩ := hg.e1
    have hP := Aside.mk (fun W h => Any.strconv_ParseInt_10_at64_syntax piLays s (by omega) hp ev W h hev)
    have e1 : nuV s = 0 := by unfold nuV; rw [hp]
    have e2 : nuB s = false := by unfold nuB; rw [hp]
    rw [e1, e2]
    clear hp e1 e2
    go_enter Tryd.func45, Tryd.ntmps45
    (go_wp2_with fail); (go_at_call 55); (refine (hP.out _ hv).mono ?_); rintro e w1 ⟨N, rfl, _, _, hk1⟩
    have k1 : Keep w w1 := ⟨hk1⟩
    clear hk1
    go_wp2
    (apply bodyPost_ret; rotate_left; rfl; exact ⟨rfl, (by ((repeat (first | (with_reducible assumption) | ((with_reducible refine Keep.setCell ?_ ?_ _); rotate_left; focus (first | omega | (simp; done) | (simp; omega))) | (with_reducible refine Keep.alloc ?_ _) | (with_reducible refine Keep.drewN ?_ _) | (with_reducible refine Keep.drew ?_) | (with_reducible exact Keep.refl _) | refine Keep.trans ?_ (by with_reducible assumption) | exact Keep.refl _ | assumption))))⟩; simp [results, Tryd.results45, go_sem, U_zero, *])
theorem nm_no {l : List UInt8} (h : nmB l = false) : nmV l = 0 := by unfold nmV; rw [h]; rfl
theorem dg_take {s : ByteArray} {i : Nat} (h : i < s.size) : (s.data.toList.take (i + 1)).all dgB = ((s.data.toList.take i).all dgB && dgB s[i]) := by
  have h' : i < s.data.toList.length := by simpa using h
  rw [List.take_succ_eq_append_getElem h', List.all_append]
  simp
  rfl
theorem dg_not {s : ByteArray} {i : Nat} (h : i < s.size) (hb : dgB s[i] = false) : nmB s.data.toList = false := by
  have h' : i < s.data.toList.length := by simpa using h
  have : s.data.toList.all dgB = false := by
    rw [List.all_eq_false]
    exact ⟨s.data.toList[i], List.getElem_mem h', by
      have e : s.data.toList[i] = s[i] := by simp; rfl
      rw [e, hb]; decide⟩
  simp [nmB, this]
theorem vl_take {s : ByteArray} {i : Nat} (h : i < s.size) : vlN (s.data.toList.take (i + 1)) = 10 * vlN (s.data.toList.take i) + (s[i].toNat - 48) := by
  have h' : i < s.data.toList.length := by simpa using h
  rw [vl_succ h']
  have e : s.data.toList[i] = s[i] := by simp; rfl
  rw [e]
theorem spec_l01Number (s : ByteArray) (w : World) (hs : s.size ≤ 9223372036854775807) :
    Calls Tryd.prog 40 #[.string s] w fun e w' => e = .returned (.tuple #[.int .i64 (((nmV s.data.toList : Nat) : Int)), .bool (nmB s.data.toList)]) ∧ Keep w w' := by
  have hsl : s.data.toList.length = s.size := by simp
  by_cases h0 : s.size = 0
  · obtain rfl : s = ⟨#[]⟩ := by
      apply ByteArray.ext
      exact Array.eq_empty_of_size_eq_zero h0
    have e1 : nmB (⟨#[]⟩ : ByteArray).data.toList = false := rfl
    rw [e1, nm_no e1]
    go_enter Tryd.func40, Tryd.ntmps40
    go_wp2
    (apply bodyPost_ret; rotate_left; rfl; exact ⟨rfl, (by ((repeat (first | (with_reducible assumption) | ((with_reducible refine Keep.setCell ?_ ?_ _); rotate_left; focus (first | omega | (simp; done) | (simp; omega))) | (with_reducible refine Keep.alloc ?_ _) | (with_reducible refine Keep.drewN ?_ _) | (with_reducible refine Keep.drew ?_) | (with_reducible exact Keep.refl _) | refine Keep.trans ?_ (by with_reducible assumption) | exact Keep.refl _ | assumption))))⟩; simp [results, Tryd.results40, go_sem, U_zero, *])
  · have hem : s.toList.isEmpty = false := by rw [← decide_eq_emptyBytes]; exact decide_eq_false (fun h => h0 (by rw [h]; rfl))
    by_cases h10 : (10 : Int) < s.size
    · have e1 : nmB s.data.toList = false := by
        unfold nmB
        rw [hsl, show decide (s.size ≤ 10) = false from decide_eq_false (by omega)]; simp
      rw [e1, nm_no e1]
      clear e1 hsl
      go_enter Tryd.func40, Tryd.ntmps40
      go_wp2
      clear h0 hem h10
      (apply bodyPost_ret; rotate_left; rfl; exact ⟨rfl, (by ((repeat (first | (with_reducible assumption) | ((with_reducible refine Keep.setCell ?_ ?_ _); rotate_left; focus (first | omega | (simp; done) | (simp; omega))) | (with_reducible refine Keep.alloc ?_ _) | (with_reducible refine Keep.drewN ?_ _) | (with_reducible refine Keep.drew ?_) | (with_reducible exact Keep.refl _) | refine Keep.trans ?_ (by with_reducible assumption) | exact Keep.refl _ | assumption))))⟩; simp [results, Tryd.results40, go_sem, U_zero, *])
    · have hp : 0 < s.size := by omega
      have hh : s.data.toList.head? = some s[0] := by
        rw [List.head?_eq_getElem?, List.getElem?_eq_getElem (by omega)]; simp; rfl
      by_cases hz : (s[0].toNat : Int) = 48 ∧ (1 : Int) < s.size
      · obtain ⟨hz1, hz2⟩ := hz
        have e1 : nmB s.data.toList = false := by
          have e : s[0] = 48 := by rw [← UInt8.toNat_inj]; exact (by omega : s[0].toNat = 48)
          unfold nmB
          rw [hsl, hh, e, show decide (1 < s.size) = true from decide_eq_true (by omega)]; simp
        rw [e1, nm_no e1]
        clear hh e1 hsl
        go_enter Tryd.func40, Tryd.ntmps40
        go_wp2
        clear h0 hem h10 hz1 hz2 hp
        (apply bodyPost_ret; rotate_left; rfl; exact ⟨rfl, (by ((repeat (first | (with_reducible assumption) | ((with_reducible refine Keep.setCell ?_ ?_ _); rotate_left; focus (first | omega | (simp; done) | (simp; omega))) | (with_reducible refine Keep.alloc ?_ _) | (with_reducible refine Keep.drewN ?_ _) | (with_reducible refine Keep.drew ?_) | (with_reducible exact Keep.refl _) | refine Keep.trans ?_ (by with_reducible assumption) | exact Keep.refl _ | assumption))))⟩; simp [results, Tryd.results40, go_sem, U_zero, *])
      · have HB : Aside (s.data.toList.all dgB = true → nmB s.data.toList = true) := Aside.mk (fun h => by
          have e : (decide (s.data.toList.head? = some 48) && decide (1 < s.data.toList.length)) = false := by
            rw [hh, hsl]
            by_cases q : 1 < s.size
            · have q1 : ¬ s[0] = 48 := fun e => hz ⟨by rw [e]; rfl, by omega⟩
              simp [q1]
            · simp [q]
          unfold nmB
          rw [e, h, hsl]
          have : s.data.toList ≠ [] := fun e => by rw [e] at hsl; simp at hsl; omega
          simp [this]; omega)
        have HW := Aside.mk hp
        have hzc : (¬ (s[0].toNat : Int) = 48) ∨ (s[0].toNat : Int) = 48 ∧ ¬ (1 : Int) < s.size := by
          by_cases q : (s[0].toNat : Int) = 48
          · exact .inr ⟨q, fun h => hz ⟨q, h⟩⟩
          · exact .inl q
        clear hh hz
        rcases hzc with hz1 | ⟨hz1, hz2⟩
        all_goals
          go_enter Tryd.func40, Tryd.ntmps40
          go_wp2_with fail
          go_loopg [4, 5] s.size (fun k v4 v5 wr => ∃ i : Nat, i + k = s.size ∧ v4 = .int .i64 ((vlN (s.data.toList.take i) : Nat) : Int) ∧ v5 = .int .i64 i ∧ (s.data.toList.take i).all dgB = true ∧ Keep w wr)
          case atStart => exact ⟨0, by omega, rfl, rfl, rfl, (by ((repeat (first | (with_reducible assumption) | ((with_reducible refine Keep.setCell ?_ ?_ _); rotate_left; focus (first | omega | (simp; done) | (simp; omega))) | (with_reducible refine Keep.alloc ?_ _) | (with_reducible refine Keep.drewN ?_ _) | (with_reducible refine Keep.drew ?_) | (with_reducible exact Keep.refl _) | refine Keep.trans ?_ (by with_reducible assumption) | exact Keep.refl _ | assumption))))⟩
          case round =>
            obtain ⟨i, hi, rfl, rfl, hall, hk⟩ := hrel
            have HL := Aside.mk hall
            by_cases hlt : i < s.size
            · have hT := dg_take hlt
              rw [HL.out, Bool.true_and] at hT
              have HT := Aside.mk hT
              have HN := Aside.mk (dg_not hlt)
              have HV := Aside.mk (vl_take hlt)
              have hvb : vlN (s.data.toList.take i) < 1000000000 := Nat.lt_of_lt_of_le (vl_bound hall) (show 10 ^ (s.data.toList.take i).length ≤ 10 ^ 9 from Nat.pow_le_pow_right (by omega) (by rw [List.length_take]; omega))
              clear hT hall hsl
              generalize vlN (s.data.toList.take i) = m at *
              by_cases c1 : (s[i].toNat : Int) < 48
              · have e1 := HN.out (by unfold dgB; simp; omega)
                have E := Aside.mk (nm_no e1)
                have E1 := Aside.mk e1
                clear e1 HN HT HV
                go_wp2
                (apply bodyPost_ret; rotate_left; rfl; exact ⟨rfl, (by ((repeat (first | (with_reducible assumption) | ((with_reducible refine Keep.setCell ?_ ?_ _); rotate_left; focus (first | omega | (simp; done) | (simp; omega))) | (with_reducible refine Keep.alloc ?_ _) | (with_reducible refine Keep.drewN ?_ _) | (with_reducible refine Keep.drew ?_) | (with_reducible exact Keep.refl _) | refine Keep.trans ?_ (by with_reducible assumption) | exact Keep.refl _ | assumption))))⟩; simp [results, Tryd.results40, go_sem, U_zero, *])
                exact ⟨by rw [E.out]; rfl, by rw [E1.out]⟩
              · by_cases c2 : (57 : Int) < s[i].toNat
                · have e1 := HN.out (by unfold dgB; simp; omega)
                  have E := Aside.mk (nm_no e1)
                  have E1 := Aside.mk e1
                  clear e1 HN HT HV
                  go_wp2
                  (apply bodyPost_ret; rotate_left; rfl; exact ⟨rfl, (by ((repeat (first | (with_reducible assumption) | ((with_reducible refine Keep.setCell ?_ ?_ _); rotate_left; focus (first | omega | (simp; done) | (simp; omega))) | (with_reducible refine Keep.alloc ?_ _) | (with_reducible refine Keep.drewN ?_ _) | (with_reducible refine Keep.drew ?_) | (with_reducible exact Keep.refl _) | refine Keep.trans ?_ (by with_reducible assumption) | exact Keep.refl _ | assumption))))⟩; simp [results, Tryd.results40, go_sem, U_zero, *])
                  exact ⟨by rw [E.out]; rfl, by rw [E1.out]⟩
                · have hb : dgB s[i] = true := by unfold dgB; simp; omega
                  rw [hb] at HT
                  have hx1 : (48 : Int) ≤ s[i].toNat := by omega
                  have hx2 : (s[i].toNat : Int) ≤ 57 := by omega
                  clear hb HN
                  have HVI : Aside (((vlN (s.data.toList.take (i + 1)) : Nat) : Int) = 10 * (m : Int) + ((s[i].toNat : Int) - 48)) := Aside.mk (by rw [HV.out]; omega)
                  have q1 : IntKind.i64.wrap (10 * (m : Int)) = 10 * (m : Int) := wrapI64 ⟨by omega, by omega⟩
                  have q2 : IntKind.u8.wrap ((s[i].toNat : Int) - 48) = (s[i].toNat : Int) - 48 := by rw [IntKind.wrap_u8]; omega
                  have q3 : IntKind.i64.wrap ((s[i].toNat : Int) - 48) = (s[i].toNat : Int) - 48 := wrapI64 ⟨by omega, by omega⟩
                  have q4 : IntKind.i64.wrap (10 * (m : Int) + ((s[i].toNat : Int) - 48)) = 10 * (m : Int) + ((s[i].toNat : Int) - 48) := wrapI64 ⟨by omega, by omega⟩
                  clear HV
                  go_wp2
                  go_roundg (s.size - (i + 1))
                  case measure => omega
                  case rel => exact ⟨i + 1, by omega, by rw [HVI.out], by go_num, HT.out, (by ((repeat (first | (with_reducible assumption) | ((with_reducible refine Keep.setCell ?_ ?_ _); rotate_left; focus (first | omega | (simp; done) | (simp; omega))) | (with_reducible refine Keep.alloc ?_ _) | (with_reducible refine Keep.drewN ?_ _) | (with_reducible refine Keep.drew ?_) | (with_reducible exact Keep.refl _) | refine Keep.trans ?_ (by with_reducible assumption) | exact Keep.refl _ | assumption))))⟩
            · obtain rfl : i = s.size := by omega
              have hal : s.data.toList.all dgB = true := by
                have := HL.out
                rwa [List.take_of_length_le (by simp)] at this
              have e1 := HB.out hal
              have E : Aside (nmV s.data.toList = vlN (s.data.toList.take s.size)) := Aside.mk (by unfold nmV; rw [e1, cond_true, List.take_of_length_le (by simp)])
              have E1 := Aside.mk e1
              clear e1 hal HB HL hall
              go_wp2
              (apply bodyPost_ret; rotate_left; rfl; exact ⟨rfl, (by ((repeat (first | (with_reducible assumption) | ((with_reducible refine Keep.setCell ?_ ?_ _); rotate_left; focus (first | omega | (simp; done) | (simp; omega))) | (with_reducible refine Keep.alloc ?_ _) | (with_reducible refine Keep.drewN ?_ _) | (with_reducible refine Keep.drew ?_) | (with_reducible exact Keep.refl _) | refine Keep.trans ?_ (by with_reducible assumption) | exact Keep.refl _ | assumption))))⟩; simp [results, Tryd.results40, go_sem, U_zero, *])
              exact ⟨by rw [E.out], by rw [E1.out]⟩
end Go.Proofs.YtagldpbmadfokaaDoor
