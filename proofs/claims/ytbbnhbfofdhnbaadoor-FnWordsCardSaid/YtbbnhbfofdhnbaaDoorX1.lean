/- A row of numbers by chance takes every value: plain facts. -/
import Derived.Test.YtbbnhbfofdhnbaaDoorK1
set_option linter.unusedVariables false
set_option linter.unusedSimpArgs false
namespace Go.Proofs.YtbbnhbfofdhnbaaDoor
open Go.RowKit
/-- The next number. -/
def nx (a : Nat) : Nat := (1664525 * a + 1013904223) % 4294967296
def it : Nat → Nat → Nat
  | 0, x => x
  | n + 1, x => nx (it n x)
theorem it_zero (x : Nat) : it 0 x = x := rfl
theorem it_succ (n x : Nat) : it (n + 1) x = nx (it n x) := rfl
theorem it_add (m n x : Nat) : it (m + n) x = it m (it n x) := by
  induction m with
  | zero => rw [Nat.zero_add]; rfl
  | succ m ih => rw [Nat.succ_add, it_succ, it_succ, ih]
theorem it_lt {n x : Nat} (h : x < 4294967296) : it n x < 4294967296 := by
  cases n with
  | zero => exact h
  | succ n => rw [it_succ]; unfold nx; omega
theorem af_0 (x : Nat) : it 1 x = (1664525 * x + 1013904223) % 4294967296 := rfl
theorem af_1 (x : Nat) : it 2 x = (389569705 * x + 1196435762) % 4294967296 := by
  rw [show 2 = 1 + 1 from rfl, it_add, af_0, af_0]; omega
theorem af_2 (x : Nat) : it 4 x = (158984081 * x + 2868466484) % 4294967296 := by
  rw [show 4 = 2 + 2 from rfl, it_add, af_1, af_1]; omega
theorem af_3 (x : Nat) : it 8 x = (3934847009 * x + 2748932008) % 4294967296 := by
  rw [show 8 = 4 + 4 from rfl, it_add, af_2, af_2]; omega
theorem af_4 (x : Nat) : it 16 x = (2001863745 * x + 2210837584) % 4294967296 := by
  rw [show 16 = 8 + 8 from rfl, it_add, af_3, af_3]; omega
theorem af_5 (x : Nat) : it 32 x = (666245249 * x + 95141024) % 4294967296 := by
  rw [show 32 = 16 + 16 from rfl, it_add, af_4, af_4]; omega
theorem af_6 (x : Nat) : it 64 x = (667185409 * x + 1956956480) % 4294967296 := by
  rw [show 64 = 32 + 32 from rfl, it_add, af_5, af_5]; omega
theorem af_7 (x : Nat) : it 128 x = (2305417729 * x + 2065617536) % 4294967296 := by
  rw [show 128 = 64 + 64 from rfl, it_add, af_6, af_6]; omega
theorem af_8 (x : Nat) : it 256 x = (1045939201 * x + 43164928) % 4294967296 := by
  rw [show 256 = 128 + 128 from rfl, it_add, af_7, af_7]; omega
theorem af_9 (x : Nat) : it 512 x = (1254066177 * x + 1585007104) % 4294967296 := by
  rw [show 512 = 256 + 256 from rfl, it_add, af_8, af_8]; omega
theorem af_10 (x : Nat) : it 1024 x = (3451850753 * x + 1648530432) % 4294967296 := by
  rw [show 1024 = 512 + 512 from rfl, it_add, af_9, af_9]; omega
theorem af_11 (x : Nat) : it 2048 x = (2088640513 * x + 1506093056) % 4294967296 := by
  rw [show 2048 = 1024 + 1024 from rfl, it_add, af_10, af_10]; omega
theorem af_12 (x : Nat) : it 4096 x = (2096906241 * x + 143282176) % 4294967296 := by
  rw [show 4096 = 2048 + 2048 from rfl, it_add, af_11, af_11]; omega
theorem af_13 (x : Nat) : it 8192 x = (167280641 * x + 1695850496) % 4294967296 := by
  rw [show 8192 = 4096 + 4096 from rfl, it_add, af_12, af_12]; omega
theorem af_14 (x : Nat) : it 16384 x = (1408303105 * x + 438910976) % 4294967296 := by
  rw [show 16384 = 8192 + 8192 from rfl, it_add, af_13, af_13]; omega
theorem af_15 (x : Nat) : it 32768 x = (2816606209 * x + 1951563776) % 4294967296 := by
  rw [show 32768 = 16384 + 16384 from rfl, it_add, af_14, af_14]; omega
theorem af_16 (x : Nat) : it 65536 x = (1338245121 * x + 3903127552) % 4294967296 := by
  rw [show 65536 = 32768 + 32768 from rfl, it_add, af_15, af_15]; omega
theorem af_17 (x : Nat) : it 131072 x = (2676490241 * x + 3511287808) % 4294967296 := by
  rw [show 131072 = 65536 + 65536 from rfl, it_add, af_16, af_16]; omega
theorem af_18 (x : Nat) : it 262144 x = (1058013185 * x + 2727608320) % 4294967296 := by
  rw [show 262144 = 131072 + 131072 from rfl, it_add, af_17, af_17]; omega
theorem af_19 (x : Nat) : it 524288 x = (2116026369 * x + 1160249344) % 4294967296 := by
  rw [show 524288 = 262144 + 262144 from rfl, it_add, af_18, af_18]; omega
theorem af_20 (x : Nat) : it 1048576 x = (4232052737 * x + 2320498688) % 4294967296 := by
  rw [show 1048576 = 524288 + 524288 from rfl, it_add, af_19, af_19]; omega
theorem af_21 (x : Nat) : it 2097152 x = (4169138177 * x + 346030080) % 4294967296 := by
  rw [show 2097152 = 1048576 + 1048576 from rfl, it_add, af_20, af_20]; omega
theorem af_22 (x : Nat) : it 4194304 x = (4043309057 * x + 692060160) % 4294967296 := by
  rw [show 4194304 = 2097152 + 2097152 from rfl, it_add, af_21, af_21]; omega
theorem af_23 (x : Nat) : it 8388608 x = (3791650817 * x + 1384120320) % 4294967296 := by
  rw [show 8388608 = 4194304 + 4194304 from rfl, it_add, af_22, af_22]; omega
theorem af_24 (x : Nat) : it 16777216 x = (3288334337 * x + 2768240640) % 4294967296 := by
  rw [show 16777216 = 8388608 + 8388608 from rfl, it_add, af_23, af_23]; omega
theorem af_25 (x : Nat) : it 33554432 x = (2281701377 * x + 1241513984) % 4294967296 := by
  rw [show 33554432 = 16777216 + 16777216 from rfl, it_add, af_24, af_24]; omega
theorem af_26 (x : Nat) : it 67108864 x = (268435457 * x + 2483027968) % 4294967296 := by
  rw [show 67108864 = 33554432 + 33554432 from rfl, it_add, af_25, af_25]; omega
theorem af_27 (x : Nat) : it 134217728 x = (536870913 * x + 671088640) % 4294967296 := by
  rw [show 134217728 = 67108864 + 67108864 from rfl, it_add, af_26, af_26]; omega
theorem af_28 (x : Nat) : it 268435456 x = (1073741825 * x + 1342177280) % 4294967296 := by
  rw [show 268435456 = 134217728 + 134217728 from rfl, it_add, af_27, af_27]; omega
theorem af_29 (x : Nat) : it 536870912 x = (2147483649 * x + 2684354560) % 4294967296 := by
  rw [show 536870912 = 268435456 + 268435456 from rfl, it_add, af_28, af_28]; omega
theorem af_30 (x : Nat) : it 1073741824 x = (1 * x + 1073741824) % 4294967296 := by
  rw [show 1073741824 = 536870912 + 536870912 from rfl, it_add, af_29, af_29]; omega
theorem af_31 (x : Nat) : it 2147483648 x = (1 * x + 2147483648) % 4294967296 := by
  rw [show 2147483648 = 1073741824 + 1073741824 from rfl, it_add, af_30, af_30]; omega
theorem cov_0 (x y : Nat) : ∃ n, it n x % 1 = y % 1 := ⟨0, by omega⟩
theorem cov_1 (x y : Nat) (hx : x < 4294967296) : ∃ n, it n x % 2 = y % 2 := by
  obtain ⟨n, hn⟩ := cov_0 x y
  by_cases h : it n x % 2 = y % 2
  · exact ⟨n, h⟩
  · refine ⟨1 + n, ?_⟩
    rw [it_add, af_0, Nat.mod_mod_of_dvd _ (by decide : 2 ∣ 4294967296)]
    generalize it n x = z at *
    rw [show 1664525 * z + 1013904223 = (z + 1) + 2 * (832262 * z + 506952111) by omega, Nat.add_mul_mod_self_left]
    omega
theorem cov_2 (x y : Nat) (hx : x < 4294967296) : ∃ n, it n x % 4 = y % 4 := by
  obtain ⟨n, hn⟩ := cov_1 x y hx
  by_cases h : it n x % 4 = y % 4
  · exact ⟨n, h⟩
  · refine ⟨2 + n, ?_⟩
    rw [it_add, af_1, Nat.mod_mod_of_dvd _ (by decide : 4 ∣ 4294967296)]
    generalize it n x = z at *
    rw [show 389569705 * z + 1196435762 = (z + 2) + 4 * (97392426 * z + 299108940) by omega, Nat.add_mul_mod_self_left]
    omega
theorem cov_3 (x y : Nat) (hx : x < 4294967296) : ∃ n, it n x % 8 = y % 8 := by
  obtain ⟨n, hn⟩ := cov_2 x y hx
  by_cases h : it n x % 8 = y % 8
  · exact ⟨n, h⟩
  · refine ⟨4 + n, ?_⟩
    rw [it_add, af_2, Nat.mod_mod_of_dvd _ (by decide : 8 ∣ 4294967296)]
    generalize it n x = z at *
    rw [show 158984081 * z + 2868466484 = (z + 4) + 8 * (19873010 * z + 358558310) by omega, Nat.add_mul_mod_self_left]
    omega
theorem cov_4 (x y : Nat) (hx : x < 4294967296) : ∃ n, it n x % 16 = y % 16 := by
  obtain ⟨n, hn⟩ := cov_3 x y hx
  by_cases h : it n x % 16 = y % 16
  · exact ⟨n, h⟩
  · refine ⟨8 + n, ?_⟩
    rw [it_add, af_3, Nat.mod_mod_of_dvd _ (by decide : 16 ∣ 4294967296)]
    generalize it n x = z at *
    rw [show 3934847009 * z + 2748932008 = (z + 8) + 16 * (245927938 * z + 171808250) by omega, Nat.add_mul_mod_self_left]
    omega
theorem cov_5 (x y : Nat) (hx : x < 4294967296) : ∃ n, it n x % 32 = y % 32 := by
  obtain ⟨n, hn⟩ := cov_4 x y hx
  by_cases h : it n x % 32 = y % 32
  · exact ⟨n, h⟩
  · refine ⟨16 + n, ?_⟩
    rw [it_add, af_4, Nat.mod_mod_of_dvd _ (by decide : 32 ∣ 4294967296)]
    generalize it n x = z at *
    rw [show 2001863745 * z + 2210837584 = (z + 16) + 32 * (62558242 * z + 69088674) by omega, Nat.add_mul_mod_self_left]
    omega
theorem cov_6 (x y : Nat) (hx : x < 4294967296) : ∃ n, it n x % 64 = y % 64 := by
  obtain ⟨n, hn⟩ := cov_5 x y hx
  by_cases h : it n x % 64 = y % 64
  · exact ⟨n, h⟩
  · refine ⟨32 + n, ?_⟩
    rw [it_add, af_5, Nat.mod_mod_of_dvd _ (by decide : 64 ∣ 4294967296)]
    generalize it n x = z at *
    rw [show 666245249 * z + 95141024 = (z + 32) + 64 * (10410082 * z + 1486578) by omega, Nat.add_mul_mod_self_left]
    omega
theorem cov_7 (x y : Nat) (hx : x < 4294967296) : ∃ n, it n x % 128 = y % 128 := by
  obtain ⟨n, hn⟩ := cov_6 x y hx
  by_cases h : it n x % 128 = y % 128
  · exact ⟨n, h⟩
  · refine ⟨64 + n, ?_⟩
    rw [it_add, af_6, Nat.mod_mod_of_dvd _ (by decide : 128 ∣ 4294967296)]
    generalize it n x = z at *
    rw [show 667185409 * z + 1956956480 = (z + 64) + 128 * (5212386 * z + 15288722) by omega, Nat.add_mul_mod_self_left]
    omega
theorem cov_8 (x y : Nat) (hx : x < 4294967296) : ∃ n, it n x % 256 = y % 256 := by
  obtain ⟨n, hn⟩ := cov_7 x y hx
  by_cases h : it n x % 256 = y % 256
  · exact ⟨n, h⟩
  · refine ⟨128 + n, ?_⟩
    rw [it_add, af_7, Nat.mod_mod_of_dvd _ (by decide : 256 ∣ 4294967296)]
    generalize it n x = z at *
    rw [show 2305417729 * z + 2065617536 = (z + 128) + 256 * (9005538 * z + 8068818) by omega, Nat.add_mul_mod_self_left]
    omega
theorem cov_9 (x y : Nat) (hx : x < 4294967296) : ∃ n, it n x % 512 = y % 512 := by
  obtain ⟨n, hn⟩ := cov_8 x y hx
  by_cases h : it n x % 512 = y % 512
  · exact ⟨n, h⟩
  · refine ⟨256 + n, ?_⟩
    rw [it_add, af_8, Nat.mod_mod_of_dvd _ (by decide : 512 ∣ 4294967296)]
    generalize it n x = z at *
    rw [show 1045939201 * z + 43164928 = (z + 256) + 512 * (2042850 * z + 84306) by omega, Nat.add_mul_mod_self_left]
    omega
theorem cov_10 (x y : Nat) (hx : x < 4294967296) : ∃ n, it n x % 1024 = y % 1024 := by
  obtain ⟨n, hn⟩ := cov_9 x y hx
  by_cases h : it n x % 1024 = y % 1024
  · exact ⟨n, h⟩
  · refine ⟨512 + n, ?_⟩
    rw [it_add, af_9, Nat.mod_mod_of_dvd _ (by decide : 1024 ∣ 4294967296)]
    generalize it n x = z at *
    rw [show 1254066177 * z + 1585007104 = (z + 512) + 1024 * (1224674 * z + 1547858) by omega, Nat.add_mul_mod_self_left]
    omega
theorem cov_11 (x y : Nat) (hx : x < 4294967296) : ∃ n, it n x % 2048 = y % 2048 := by
  obtain ⟨n, hn⟩ := cov_10 x y hx
  by_cases h : it n x % 2048 = y % 2048
  · exact ⟨n, h⟩
  · refine ⟨1024 + n, ?_⟩
    rw [it_add, af_10, Nat.mod_mod_of_dvd _ (by decide : 2048 ∣ 4294967296)]
    generalize it n x = z at *
    rw [show 3451850753 * z + 1648530432 = (z + 1024) + 2048 * (1685474 * z + 804946) by omega, Nat.add_mul_mod_self_left]
    omega
theorem cov_12 (x y : Nat) (hx : x < 4294967296) : ∃ n, it n x % 4096 = y % 4096 := by
  obtain ⟨n, hn⟩ := cov_11 x y hx
  by_cases h : it n x % 4096 = y % 4096
  · exact ⟨n, h⟩
  · refine ⟨2048 + n, ?_⟩
    rw [it_add, af_11, Nat.mod_mod_of_dvd _ (by decide : 4096 ∣ 4294967296)]
    generalize it n x = z at *
    rw [show 2088640513 * z + 1506093056 = (z + 2048) + 4096 * (509922 * z + 367698) by omega, Nat.add_mul_mod_self_left]
    omega
theorem cov_13 (x y : Nat) (hx : x < 4294967296) : ∃ n, it n x % 8192 = y % 8192 := by
  obtain ⟨n, hn⟩ := cov_12 x y hx
  by_cases h : it n x % 8192 = y % 8192
  · exact ⟨n, h⟩
  · refine ⟨4096 + n, ?_⟩
    rw [it_add, af_12, Nat.mod_mod_of_dvd _ (by decide : 8192 ∣ 4294967296)]
    generalize it n x = z at *
    rw [show 2096906241 * z + 143282176 = (z + 4096) + 8192 * (255970 * z + 17490) by omega, Nat.add_mul_mod_self_left]
    omega
theorem cov_14 (x y : Nat) (hx : x < 4294967296) : ∃ n, it n x % 16384 = y % 16384 := by
  obtain ⟨n, hn⟩ := cov_13 x y hx
  by_cases h : it n x % 16384 = y % 16384
  · exact ⟨n, h⟩
  · refine ⟨8192 + n, ?_⟩
    rw [it_add, af_13, Nat.mod_mod_of_dvd _ (by decide : 16384 ∣ 4294967296)]
    generalize it n x = z at *
    rw [show 167280641 * z + 1695850496 = (z + 8192) + 16384 * (10210 * z + 103506) by omega, Nat.add_mul_mod_self_left]
    omega
theorem cov_15 (x y : Nat) (hx : x < 4294967296) : ∃ n, it n x % 32768 = y % 32768 := by
  obtain ⟨n, hn⟩ := cov_14 x y hx
  by_cases h : it n x % 32768 = y % 32768
  · exact ⟨n, h⟩
  · refine ⟨16384 + n, ?_⟩
    rw [it_add, af_14, Nat.mod_mod_of_dvd _ (by decide : 32768 ∣ 4294967296)]
    generalize it n x = z at *
    rw [show 1408303105 * z + 438910976 = (z + 16384) + 32768 * (42978 * z + 13394) by omega, Nat.add_mul_mod_self_left]
    omega
theorem cov_16 (x y : Nat) (hx : x < 4294967296) : ∃ n, it n x % 65536 = y % 65536 := by
  obtain ⟨n, hn⟩ := cov_15 x y hx
  by_cases h : it n x % 65536 = y % 65536
  · exact ⟨n, h⟩
  · refine ⟨32768 + n, ?_⟩
    rw [it_add, af_15, Nat.mod_mod_of_dvd _ (by decide : 65536 ∣ 4294967296)]
    generalize it n x = z at *
    rw [show 2816606209 * z + 1951563776 = (z + 32768) + 65536 * (42978 * z + 29778) by omega, Nat.add_mul_mod_self_left]
    omega
theorem cov_17 (x y : Nat) (hx : x < 4294967296) : ∃ n, it n x % 131072 = y % 131072 := by
  obtain ⟨n, hn⟩ := cov_16 x y hx
  by_cases h : it n x % 131072 = y % 131072
  · exact ⟨n, h⟩
  · refine ⟨65536 + n, ?_⟩
    rw [it_add, af_16, Nat.mod_mod_of_dvd _ (by decide : 131072 ∣ 4294967296)]
    generalize it n x = z at *
    rw [show 1338245121 * z + 3903127552 = (z + 65536) + 131072 * (10210 * z + 29778) by omega, Nat.add_mul_mod_self_left]
    omega
theorem cov_18 (x y : Nat) (hx : x < 4294967296) : ∃ n, it n x % 262144 = y % 262144 := by
  obtain ⟨n, hn⟩ := cov_17 x y hx
  by_cases h : it n x % 262144 = y % 262144
  · exact ⟨n, h⟩
  · refine ⟨131072 + n, ?_⟩
    rw [it_add, af_17, Nat.mod_mod_of_dvd _ (by decide : 262144 ∣ 4294967296)]
    generalize it n x = z at *
    rw [show 2676490241 * z + 3511287808 = (z + 131072) + 262144 * (10210 * z + 13394) by omega, Nat.add_mul_mod_self_left]
    omega
theorem cov_19 (x y : Nat) (hx : x < 4294967296) : ∃ n, it n x % 524288 = y % 524288 := by
  obtain ⟨n, hn⟩ := cov_18 x y hx
  by_cases h : it n x % 524288 = y % 524288
  · exact ⟨n, h⟩
  · refine ⟨262144 + n, ?_⟩
    rw [it_add, af_18, Nat.mod_mod_of_dvd _ (by decide : 524288 ∣ 4294967296)]
    generalize it n x = z at *
    rw [show 1058013185 * z + 2727608320 = (z + 262144) + 524288 * (2018 * z + 5202) by omega, Nat.add_mul_mod_self_left]
    omega
theorem cov_20 (x y : Nat) (hx : x < 4294967296) : ∃ n, it n x % 1048576 = y % 1048576 := by
  obtain ⟨n, hn⟩ := cov_19 x y hx
  by_cases h : it n x % 1048576 = y % 1048576
  · exact ⟨n, h⟩
  · refine ⟨524288 + n, ?_⟩
    rw [it_add, af_19, Nat.mod_mod_of_dvd _ (by decide : 1048576 ∣ 4294967296)]
    generalize it n x = z at *
    rw [show 2116026369 * z + 1160249344 = (z + 524288) + 1048576 * (2018 * z + 1106) by omega, Nat.add_mul_mod_self_left]
    omega
theorem cov_21 (x y : Nat) (hx : x < 4294967296) : ∃ n, it n x % 2097152 = y % 2097152 := by
  obtain ⟨n, hn⟩ := cov_20 x y hx
  by_cases h : it n x % 2097152 = y % 2097152
  · exact ⟨n, h⟩
  · refine ⟨1048576 + n, ?_⟩
    rw [it_add, af_20, Nat.mod_mod_of_dvd _ (by decide : 2097152 ∣ 4294967296)]
    generalize it n x = z at *
    rw [show 4232052737 * z + 2320498688 = (z + 1048576) + 2097152 * (2018 * z + 1106) by omega, Nat.add_mul_mod_self_left]
    omega
theorem cov_22 (x y : Nat) (hx : x < 4294967296) : ∃ n, it n x % 4194304 = y % 4194304 := by
  obtain ⟨n, hn⟩ := cov_21 x y hx
  by_cases h : it n x % 4194304 = y % 4194304
  · exact ⟨n, h⟩
  · refine ⟨2097152 + n, ?_⟩
    rw [it_add, af_21, Nat.mod_mod_of_dvd _ (by decide : 4194304 ∣ 4294967296)]
    generalize it n x = z at *
    rw [show 4169138177 * z + 346030080 = (z + 2097152) + 4194304 * (994 * z + 82) by omega, Nat.add_mul_mod_self_left]
    omega
theorem cov_23 (x y : Nat) (hx : x < 4294967296) : ∃ n, it n x % 8388608 = y % 8388608 := by
  obtain ⟨n, hn⟩ := cov_22 x y hx
  by_cases h : it n x % 8388608 = y % 8388608
  · exact ⟨n, h⟩
  · refine ⟨4194304 + n, ?_⟩
    rw [it_add, af_22, Nat.mod_mod_of_dvd _ (by decide : 8388608 ∣ 4294967296)]
    generalize it n x = z at *
    rw [show 4043309057 * z + 692060160 = (z + 4194304) + 8388608 * (482 * z + 82) by omega, Nat.add_mul_mod_self_left]
    omega
theorem cov_24 (x y : Nat) (hx : x < 4294967296) : ∃ n, it n x % 16777216 = y % 16777216 := by
  obtain ⟨n, hn⟩ := cov_23 x y hx
  by_cases h : it n x % 16777216 = y % 16777216
  · exact ⟨n, h⟩
  · refine ⟨8388608 + n, ?_⟩
    rw [it_add, af_23, Nat.mod_mod_of_dvd _ (by decide : 16777216 ∣ 4294967296)]
    generalize it n x = z at *
    rw [show 3791650817 * z + 1384120320 = (z + 8388608) + 16777216 * (226 * z + 82) by omega, Nat.add_mul_mod_self_left]
    omega
theorem cov_25 (x y : Nat) (hx : x < 4294967296) : ∃ n, it n x % 33554432 = y % 33554432 := by
  obtain ⟨n, hn⟩ := cov_24 x y hx
  by_cases h : it n x % 33554432 = y % 33554432
  · exact ⟨n, h⟩
  · refine ⟨16777216 + n, ?_⟩
    rw [it_add, af_24, Nat.mod_mod_of_dvd _ (by decide : 33554432 ∣ 4294967296)]
    generalize it n x = z at *
    rw [show 3288334337 * z + 2768240640 = (z + 16777216) + 33554432 * (98 * z + 82) by omega, Nat.add_mul_mod_self_left]
    omega
theorem cov_26 (x y : Nat) (hx : x < 4294967296) : ∃ n, it n x % 67108864 = y % 67108864 := by
  obtain ⟨n, hn⟩ := cov_25 x y hx
  by_cases h : it n x % 67108864 = y % 67108864
  · exact ⟨n, h⟩
  · refine ⟨33554432 + n, ?_⟩
    rw [it_add, af_25, Nat.mod_mod_of_dvd _ (by decide : 67108864 ∣ 4294967296)]
    generalize it n x = z at *
    rw [show 2281701377 * z + 1241513984 = (z + 33554432) + 67108864 * (34 * z + 18) by omega, Nat.add_mul_mod_self_left]
    omega
theorem cov_27 (x y : Nat) (hx : x < 4294967296) : ∃ n, it n x % 134217728 = y % 134217728 := by
  obtain ⟨n, hn⟩ := cov_26 x y hx
  by_cases h : it n x % 134217728 = y % 134217728
  · exact ⟨n, h⟩
  · refine ⟨67108864 + n, ?_⟩
    rw [it_add, af_26, Nat.mod_mod_of_dvd _ (by decide : 134217728 ∣ 4294967296)]
    generalize it n x = z at *
    rw [show 268435457 * z + 2483027968 = (z + 67108864) + 134217728 * (2 * z + 18) by omega, Nat.add_mul_mod_self_left]
    omega
theorem cov_28 (x y : Nat) (hx : x < 4294967296) : ∃ n, it n x % 268435456 = y % 268435456 := by
  obtain ⟨n, hn⟩ := cov_27 x y hx
  by_cases h : it n x % 268435456 = y % 268435456
  · exact ⟨n, h⟩
  · refine ⟨134217728 + n, ?_⟩
    rw [it_add, af_27, Nat.mod_mod_of_dvd _ (by decide : 268435456 ∣ 4294967296)]
    generalize it n x = z at *
    rw [show 536870913 * z + 671088640 = (z + 134217728) + 268435456 * (2 * z + 2) by omega, Nat.add_mul_mod_self_left]
    omega
theorem cov_29 (x y : Nat) (hx : x < 4294967296) : ∃ n, it n x % 536870912 = y % 536870912 := by
  obtain ⟨n, hn⟩ := cov_28 x y hx
  by_cases h : it n x % 536870912 = y % 536870912
  · exact ⟨n, h⟩
  · refine ⟨268435456 + n, ?_⟩
    rw [it_add, af_28, Nat.mod_mod_of_dvd _ (by decide : 536870912 ∣ 4294967296)]
    generalize it n x = z at *
    rw [show 1073741825 * z + 1342177280 = (z + 268435456) + 536870912 * (2 * z + 2) by omega, Nat.add_mul_mod_self_left]
    omega
theorem cov_30 (x y : Nat) (hx : x < 4294967296) : ∃ n, it n x % 1073741824 = y % 1073741824 := by
  obtain ⟨n, hn⟩ := cov_29 x y hx
  by_cases h : it n x % 1073741824 = y % 1073741824
  · exact ⟨n, h⟩
  · refine ⟨536870912 + n, ?_⟩
    rw [it_add, af_29, Nat.mod_mod_of_dvd _ (by decide : 1073741824 ∣ 4294967296)]
    generalize it n x = z at *
    rw [show 2147483649 * z + 2684354560 = (z + 536870912) + 1073741824 * (2 * z + 2) by omega, Nat.add_mul_mod_self_left]
    omega
theorem cov_31 (x y : Nat) (hx : x < 4294967296) : ∃ n, it n x % 2147483648 = y % 2147483648 := by
  obtain ⟨n, hn⟩ := cov_30 x y hx
  by_cases h : it n x % 2147483648 = y % 2147483648
  · exact ⟨n, h⟩
  · refine ⟨1073741824 + n, ?_⟩
    rw [it_add, af_30, Nat.mod_mod_of_dvd _ (by decide : 2147483648 ∣ 4294967296)]
    generalize it n x = z at *
    rw [show 1 * z + 1073741824 = (z + 1073741824) + 2147483648 * (0 * z + 0) by omega, Nat.add_mul_mod_self_left]
    omega
theorem cov_32 (x y : Nat) (hx : x < 4294967296) : ∃ n, it n x % 4294967296 = y % 4294967296 := by
  obtain ⟨n, hn⟩ := cov_31 x y hx
  by_cases h : it n x % 4294967296 = y % 4294967296
  · exact ⟨n, h⟩
  · refine ⟨2147483648 + n, ?_⟩
    rw [it_add, af_31, Nat.mod_mod_of_dvd _ (by decide : 4294967296 ∣ 4294967296)]
    generalize it n x = z at *
    rw [show 1 * z + 2147483648 = (z + 2147483648) + 4294967296 * (0 * z + 0) by omega, Nat.add_mul_mod_self_left]
    omega
/-- Every value comes. -/
theorem cov {x y : Nat} (hx : x < 4294967296) (hy : y < 4294967296) : ∃ n, it n x = y := by
  obtain ⟨n, hn⟩ := cov_32 x y hx
  exact ⟨n, by have := it_lt (n := n) hx; omega⟩
end Go.Proofs.YtbbnhbfofdhnbaaDoor
