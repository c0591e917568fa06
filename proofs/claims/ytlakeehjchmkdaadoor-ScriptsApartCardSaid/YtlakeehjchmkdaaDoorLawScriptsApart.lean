/- ScriptsApart (f5). -/
import Derived.Test.YtlakeehjchmkdaaDoorSets
set_option linter.unusedVariables false
namespace Go.Proofs.YtlakeehjchmkdaaDoor.Look
open Go Go.RowKit Go.Shelf Go.Proofs

/-- A table as one row of numbers: -1 where there is none. -/
def rowOf (T : List (List ByteArray)) : List Int := (List.range 256).map fun (k : Nat) => let r := lookT T (k : Int); if r.2 then r.1 else -1
/-- Each found character stands at one place. -/
def distinctFrom : List Int → Bool
  | [] => true
  | x :: l => (decide (x = -1) || l.all fun y => decide (y ≠ x)) && distinctFrom l
theorem distinct_at : ∀ (l : List Int), distinctFrom l = true → ∀ (i j : Nat) (x y : Int), i < j → l[i]? = some x → l[j]? = some y → x ≠ -1 → y ≠ x
  | [], _, i, j, x, y, _, h, _, _ => by simp at h
  | z :: l, hd, 0, j + 1, x, y, _, hx, hy, hn => by
    simp only [distinctFrom, Bool.and_eq_true, Bool.or_eq_true, decide_eq_true_eq] at hd
    simp at hx hy
    subst hx
    rcases hd.1 with h | h
    · exact absurd h hn
    · have := List.all_eq_true.1 h y (List.mem_of_getElem? hy)
      simpa using this
  | z :: l, hd, i + 1, j + 1, x, y, hij, hx, hy, hn => by
    simp only [distinctFrom, Bool.and_eq_true] at hd
    exact distinct_at l hd.2 i j x y (by omega) (by simpa using hx) (by simpa using hy) hn
/-- Two numbers that are found are one just if their characters are. -/
theorem apart_of {T : List (List ByteArray)} (L : List Int) (hL : rowOf T = L) (hd : distinctFrom L = true) (a b : Nat) (ha : a < 256) (hb : b < 256) (h1 : (lookT T a).2 = true) (h2 : (lookT T b).2 = true) (hp1 : 0 ≤ (lookT T a).1) (hp2 : 0 ≤ (lookT T b).1) :
    decide ((lookT T a).1 = (lookT T b).1) = decide (a = b) := by
  have key : ∀ k : Nat, k < 256 → (lookT T k).2 = true → L[k]? = some (lookT T k).1 := fun k hk h => by
    rw [← hL]
    simp [rowOf, hk, h]
  apply decide_eq_decide.2
  constructor
  · intro he
    rcases Nat.lt_trichotomy a b with h | h | h
    · exact absurd he.symm (distinct_at L hd a b _ _ h (key a ha h1) (key b hb h2) (by omega))
    · exact h
    · exact absurd he (distinct_at L hd b a _ _ h (key b hb h2) (key a ha h1) (by omega))
  · rintro rfl
    rfl

def greekR : List Int := [-1, -1, -1, -1, -1, -1, -1, -1, -1, -1, -1, -1, -1, -1, -1, -1, -1, -1, -1, -1, -1, -1, -1, -1, -1, -1, -1, -1, -1, -1, -1, -1, -1, 768, 769, 776, 834, 787, 788, 837, -1, -1, -1, -1, -1, -1, -1, -1, 171, 187, 8220, 8221, 884, 885, -1, -1, -1, -1, -1, 903, -1, -1, -1, 894, -1, 913, 914, -1, 915, 916, 917, 986, 988, 918, 919, 920, 921, 922, 923, 924, 925, 926, 927, 928, 990, 929, 931, -1, 932, 933, 934, 935, 936, 937, 992, -1, -1, 945, 946, 976, 947, 948, 949, 987, 989, 950, 951, 952, 953, 954, 955, 956, 957, 958, 959, 960, 991, 961, 963, 962, 964, 965, 966, 967, 968, 969, 993, -1, -1, -1, -1, -1, -1, -1, -1, -1, -1, -1, -1, -1, -1, -1, -1, -1, -1, -1, -1, -1, -1, -1, -1, -1, -1, -1, -1, -1, -1, -1, -1, -1, -1, -1, -1, -1, -1, -1, -1, -1, -1, -1, -1, -1, -1, -1, -1, -1, -1, -1, -1, -1, -1, -1, -1, -1, -1, -1, -1, -1, -1, -1, -1, -1, -1, -1, -1, -1, -1, -1, -1, -1, -1, -1, -1, -1, -1, -1, -1, -1, -1, -1, -1, -1, -1, -1, -1, -1, -1, -1, -1, -1, -1, -1, -1, -1, -1, -1, -1, -1, -1, -1, -1, -1, -1, -1, -1, -1, -1, -1, -1, -1, -1, -1, -1, -1, -1, -1, -1, -1, -1, -1, -1, -1, -1, -1, -1, -1]
theorem greek_row : rowOf greekT = greekR := by decide +kernel
theorem greek_distinct : distinctFrom greekR = true := by decide +kernel
theorem greek_found : ∀ k : Fin 256, (lookT greekT k).2 = true → 0 ≤ (lookT greekT k).1 ∧ (lookT greekT k).1 ≤ 1114111 := by decide +kernel
def hebrewR : List Int := [-1, -1, -1, -1, -1, -1, -1, -1, -1, -1, -1, -1, -1, -1, -1, -1, -1, -1, -1, -1, -1, -1, -1, -1, -1, -1, -1, -1, -1, -1, -1, -1, -1, 33, 1524, 35, 36, 37, 38, 1523, 40, 41, 42, 43, 44, 1470, 46, 47, 48, 49, 50, 51, 52, 53, 54, 55, 56, 57, 58, 59, 60, 61, 62, 63, 1463, 1464, 1462, 1461, 1460, 1465, 1467, 1456, 1458, 1459, 1457, 1468, 1471, 1473, 64286, -1, -1, -1, -1, -1, -1, -1, -1, -1, -1, -1, -1, -1, -1, -1, -1, -1, 1488, 1489, 1490, 1491, 1492, 1493, 1494, 1495, 1496, 1497, 1498, 1499, 1500, 1501, 1502, 1503, 1504, 1505, 1506, 1507, 1508, 1509, 1510, 1511, 1512, 1513, 1514, 1520, 1521, 1522, -1, -1, -1, -1, -1, -1, -1, -1, -1, -1, -1, -1, -1, -1, -1, -1, -1, -1, -1, -1, -1, -1, -1, -1, -1, -1, -1, -1, -1, -1, -1, -1, -1, -1, -1, -1, -1, -1, -1, -1, -1, -1, -1, -1, -1, -1, -1, -1, -1, -1, -1, -1, -1, -1, -1, -1, -1, -1, -1, -1, -1, -1, -1, -1, -1, -1, -1, -1, -1, -1, -1, -1, -1, -1, -1, -1, -1, -1, -1, -1, -1, -1, -1, -1, -1, -1, -1, -1, -1, -1, -1, -1, -1, -1, -1, -1, -1, -1, -1, -1, -1, -1, -1, -1, -1, -1, -1, -1, -1, -1, -1, -1, -1, -1, -1, -1, -1, -1, -1, -1, -1, -1, -1, -1, -1, -1, -1, -1, -1, -1]
theorem hebrew_row : rowOf hebrewT = hebrewR := by decide +kernel
theorem hebrew_distinct : distinctFrom hebrewR = true := by decide +kernel
theorem hebrew_found : ∀ k : Fin 256, (lookT hebrewT k).2 = true → 0 ≤ (lookT hebrewT k).1 ∧ (lookT hebrewT k).1 ≤ 1114111 := by decide +kernel
def arabicR : List Int := [-1, -1, -1, -1, -1, -1, -1, -1, -1, -1, -1, -1, -1, -1, -1, -1, -1, -1, -1, -1, -1, -1, -1, -1, -1, -1, -1, -1, -1, -1, -1, -1, -1, 33, 34, 35, 36, 1642, 38, 39, 40, 41, 1645, 43, 1548, 45, 46, 47, 1632, 1633, 1634, 1635, 1636, 1637, 1638, 1639, 1640, 1641, 58, 1563, 60, 61, 62, 1567, -1, 1569, 1570, 1571, 1572, 1573, 1574, 1575, 1576, 1577, 1578, 1579, 1580, 1581, 1582, 1583, 1584, 1585, 1586, 1587, 1588, 1589, 1590, 1591, 1592, 1593, 1594, 91, -1, 93, -1, -1, 1600, 1601, 1602, 1603, 1604, 1605, 1606, 1607, 1608, 1609, 1610, 1611, 1612, 1613, 1614, 1615, 1616, 1617, 1618, 1649, 1648, -1, -1, -1, 1644, 8221, 8220, -1, -1, -1, -1, -1, -1, -1, -1, -1, -1, -1, -1, -1, -1, -1, -1, -1, -1, -1, -1, -1, -1, -1, -1, -1, -1, -1, -1, -1, -1, -1, -1, -1, -1, -1, -1, -1, -1, -1, -1, -1, -1, -1, -1, -1, -1, -1, -1, -1, -1, -1, -1, -1, -1, -1, -1, -1, -1, -1, -1, -1, -1, -1, -1, -1, -1, -1, -1, -1, -1, -1, -1, -1, -1, -1, -1, -1, -1, -1, -1, -1, -1, -1, -1, -1, -1, -1, -1, -1, -1, -1, -1, -1, -1, -1, -1, -1, -1, -1, -1, -1, -1, -1, -1, -1, -1, -1, -1, -1, -1, -1, -1, -1, -1, -1, -1, -1, -1, -1, -1, -1, -1, -1, -1, -1, -1, -1, -1, -1, -1, -1, -1, -1]
theorem arabic_row : rowOf arabicT = arabicR := by decide +kernel
theorem arabic_distinct : distinctFrom arabicR = true := by decide +kernel
theorem arabic_found : ∀ k : Fin 256, (lookT arabicT k).2 = true → 0 ≤ (lookT arabicT k).1 ∧ (lookT arabicT k).1 ≤ 1114111 := by decide +kernel
def moreArabicR : List Int := [-1, -1, -1, -1, -1, -1, -1, -1, -1, -1, -1, -1, -1, -1, -1, -1, -1, -1, -1, -1, -1, -1, -1, -1, -1, -1, -1, -1, -1, -1, -1, -1, -1, 1789, 1650, 1651, 1657, 1658, 1659, 1660, 1661, 1662, 1663, 1664, 1665, 1666, 1667, 1668, 1669, 1670, 1727, 1671, 1672, 1673, 1674, 1675, 1676, 1677, 1678, 1679, 1680, 1681, 1682, 1683, 1684, 1685, 1686, 1687, 1688, 1689, 1690, 1691, 1692, 1786, 1693, 1694, 1787, 1695, 1696, 1788, 1697, 1698, 1699, 1700, 1701, 1702, 1703, 1704, 1705, 1706, 1707, 1708, 1709, 1710, 1711, 1712, 1713, 1714, 1715, 1716, 1717, 1718, 1719, 1720, 1722, 1723, 1724, 1725, 1721, 1726, -1, -1, -1, -1, -1, -1, -1, -1, -1, -1, -1, -1, -1, -1, -1, -1, -1, -1, -1, -1, -1, -1, -1, -1, -1, -1, -1, -1, -1, -1, -1, -1, -1, -1, -1, -1, -1, -1, -1, -1, -1, -1, -1, -1, -1, -1, -1, -1, -1, -1, -1, -1, -1, -1, -1, -1, -1, -1, -1, -1, -1, -1, -1, -1, -1, -1, -1, -1, -1, -1, -1, -1, -1, -1, -1, -1, -1, -1, -1, -1, -1, -1, -1, -1, -1, -1, -1, -1, -1, -1, -1, -1, -1, -1, -1, -1, -1, -1, -1, -1, -1, -1, -1, -1, -1, -1, -1, -1, -1, -1, -1, -1, -1, -1, -1, -1, -1, -1, -1, -1, -1, -1, -1, -1, -1, -1, -1, -1, -1, -1, -1, -1, -1, -1, -1, -1, -1, -1, -1, -1, -1, -1, -1, -1, -1, -1]
theorem moreArabic_row : rowOf moreArabicT = moreArabicR := by decide +kernel
theorem moreArabic_distinct : distinctFrom moreArabicR = true := by decide +kernel
theorem moreArabic_found : ∀ k : Fin 256, (lookT moreArabicT k).2 = true → 0 ≤ (lookT moreArabicT k).1 ∧ (lookT moreArabicT k).1 ≤ 1114111 := by decide +kernel
def cyrillicR : List Int := [-1, -1, -1, -1, -1, -1, -1, -1, -1, -1, -1, -1, -1, -1, -1, -1, -1, -1, -1, -1, -1, -1, -1, -1, -1, -1, -1, -1, -1, -1, -1, -1, -1, 33, 34, 35, 36, 37, 38, 39, 40, 41, 42, 43, 44, 45, 46, 47, 48, 49, 50, 51, 52, 53, 54, 55, 56, 57, 58, 59, 60, 61, 62, 63, 1102, 1072, 1073, 1094, 1076, 1077, 1092, 1075, 1093, 1080, 1081, 1082, 1083, 1084, 1085, 1086, 1087, 1103, 1088, 1089, 1090, 1091, 1078, 1074, 1100, 1099, 1079, 1096, 1101, 1097, 1095, 1098, 1070, 1040, 1041, 1062, 1044, 1045, 1060, 1043, 1061, 1048, 1049, 1050, 1051, 1052, 1053, 1054, 1055, 1071, 1056, 1057, 1058, 1059, 1046, 1042, 1068, 1067, 1047, 1064, 1069, 1065, 1063, -1, -1, -1, -1, -1, -1, -1, -1, -1, -1, -1, -1, -1, -1, -1, -1, -1, -1, -1, -1, -1, -1, -1, -1, -1, -1, -1, -1, -1, -1, -1, -1, -1, -1, -1, -1, -1, -1, -1, -1, -1, -1, -1, -1, -1, -1, -1, -1, -1, -1, -1, -1, -1, -1, -1, -1, -1, -1, -1, -1, -1, -1, -1, -1, -1, -1, -1, -1, -1, -1, -1, -1, -1, -1, -1, -1, -1, -1, -1, -1, -1, -1, -1, -1, -1, -1, -1, -1, -1, -1, -1, -1, -1, -1, -1, -1, -1, -1, -1, -1, -1, -1, -1, -1, -1, -1, -1, -1, -1, -1, -1, -1, -1, -1, -1, -1, -1, -1, -1, -1, -1, -1, -1, -1, -1, -1, -1, -1, -1]
theorem cyrillic_row : rowOf cyrillicT = cyrillicR := by decide +kernel
theorem cyrillic_distinct : distinctFrom cyrillicR = true := by decide +kernel
theorem cyrillic_found : ∀ k : Fin 256, (lookT cyrillicT k).2 = true → 0 ≤ (lookT cyrillicT k).1 ∧ (lookT cyrillicT k).1 ≤ 1114111 := by decide +kernel
def moreCyrillR : List Int := [-1, -1, -1, -1, -1, -1, -1, -1, -1, -1, -1, -1, -1, -1, -1, -1, -1, -1, -1, -1, -1, -1, -1, -1, -1, -1, -1, -1, -1, -1, -1, -1, -1, -1, -1, -1, -1, -1, -1, -1, -1, -1, -1, -1, -1, -1, -1, -1, -1, -1, -1, -1, -1, -1, -1, -1, -1, -1, -1, -1, -1, -1, -1, -1, 1169, 1106, 1107, 1108, 1105, 1109, 1110, 1111, 1112, 1113, 1114, 1115, 1116, 1118, 1119, -1, 1123, 1139, 1141, 1131, -1, -1, -1, -1, -1, -1, -1, 91, -1, 93, -1, 95, 1168, 1026, 1027, 1028, 1025, 1029, 1030, 1031, 1032, 1033, 1034, 1035, 1036, 1038, 1039, 1066, 1122, 1138, 1140, 1130, -1, -1, -1, -1, -1, -1, -1, -1, -1, -1, -1, -1, -1, -1, -1, -1, -1, -1, -1, -1, -1, -1, -1, -1, -1, -1, -1, -1, -1, -1, -1, -1, -1, -1, -1, -1, -1, -1, -1, -1, -1, -1, -1, -1, -1, -1, -1, -1, -1, -1, -1, -1, -1, -1, -1, -1, -1, -1, -1, -1, -1, -1, -1, -1, -1, -1, -1, -1, -1, -1, -1, -1, -1, -1, -1, -1, -1, -1, -1, -1, -1, -1, -1, -1, -1, -1, -1, -1, -1, -1, -1, -1, -1, -1, -1, -1, -1, -1, -1, -1, -1, -1, -1, -1, -1, -1, -1, -1, -1, -1, -1, -1, -1, -1, -1, -1, -1, -1, -1, -1, -1, -1, -1, -1, -1, -1, -1, -1, -1, -1, -1, -1, -1, -1, -1, -1, -1, -1, -1, -1]
theorem moreCyrill_row : rowOf moreCyrillT = moreCyrillR := by decide +kernel
theorem moreCyrill_distinct : distinctFrom moreCyrillR = true := by decide +kernel
theorem moreCyrill_found : ∀ k : Fin 256, (lookT moreCyrillT k).2 = true → 0 ≤ (lookT moreCyrillT k).1 ∧ (lookT moreCyrillT k).1 ≤ 1114111 := by decide +kernel

section
variable (s : Int) (s0 : 0 ≤ s) (s1 : s ≤ 255) (i j : Nat) (hi : i < 256) (hj : j < 256) (w : World) (hT : Tabs w) (x y : Int)
set_option maxHeartbeats 8000000 in
set_option maxRecDepth 100000 in
include s0 s1 hi hj hT in
theorem walk5core (ok yes : Bool)
    (cA : Calls Tryd.prog 12 #[.int .i64 (3 + s % 6), .int .i64 i] w fun e w' => e = .returned (.tuple #[.int .i32 x, .bool ok]) ∧ Below w.heap.size w w')
    (cB : ∀ W, Below w.heap.size w W → Calls Tryd.prog 12 #[.int .i64 (3 + s % 6), .int .i64 j] W fun e w' => e = .returned (.tuple #[.int .i32 y, .bool yes]) ∧ Below W.heap.size W w')
    (hxy : ok = true → yes = true → (i = j ∧ x = y ∨ i ≠ j ∧ x ≠ y)) :
    Calls Tryd.prog 5 #[.int .u8 s, .int .u8 i, .int .u8 j] w fun e w' => e = .returned (.bool true) ∧ Below w.heap.size w w' := by
  have c9 := fun W (hb : Below w.heap.size w W) => answers13 W (hT.below hb)
  clear hT
  cases ok with
  | false =>
    clear hxy
    go_enter Tryd.func5, Tryd.ntmps5
    go_wp2_with (first | (go_at_call 12; first | (refine (cB _ hb1).mono ?_; rintro e w2 ⟨rfl, hb2⟩; have hb2' := hb1.trans (hb2.mono hb1.size)) | (refine cA.mono ?_; rintro e w1 ⟨rfl, hb1⟩)) | (go_at_call 13; refine (c9 _ hb2').mono ?_; rintro e w4 ⟨rfl, hb4⟩))
    go_ret
    exact ⟨by first | rfl | simp, hb2'.trans (hb4.mono hb2'.size)⟩
  | true =>
    cases yes with
    | false =>
      clear hxy
      go_enter Tryd.func5, Tryd.ntmps5
      go_wp2_with (first | (go_at_call 12; first | (refine (cB _ hb1).mono ?_; rintro e w2 ⟨rfl, hb2⟩; have hb2' := hb1.trans (hb2.mono hb1.size)) | (refine cA.mono ?_; rintro e w1 ⟨rfl, hb1⟩)) | (go_at_call 13; refine (c9 _ hb2').mono ?_; rintro e w4 ⟨rfl, hb4⟩))
      go_ret
      exact ⟨by first | rfl | simp, hb2'.trans (hb4.mono hb2'.size)⟩
    | true =>
      rcases hxy rfl rfl with ⟨rfl, rfl⟩ | ⟨hij, hne⟩
      · clear hxy
        go_enter Tryd.func5, Tryd.ntmps5
        go_wp2_with (first | (go_at_call 12; first | (refine (cB _ hb1).mono ?_; rintro e w2 ⟨rfl, hb2⟩; have hb2' := hb1.trans (hb2.mono hb1.size)) | (refine cA.mono ?_; rintro e w1 ⟨rfl, hb1⟩)) | (go_at_call 13; refine (c9 _ hb2').mono ?_; rintro e w4 ⟨rfl, hb4⟩))
        go_ret
        exact ⟨by first | rfl | simp, hb2'.trans (hb4.mono hb2'.size)⟩
      · have hijz : ¬ ((i : Int) = (j : Int)) := by omega
        have hq1 : (x == y) = false := by simpa using hne
        have hq2 : ((i : Int) == (j : Int)) = false := by simpa using hijz
        clear hij hxy hne hijz
        go_enter Tryd.func5, Tryd.ntmps5
        go_wp2_with (first | (go_at_call 12; first | (refine (cB _ hb1).mono ?_; rintro e w2 ⟨rfl, hb2⟩; have hb2' := hb1.trans (hb2.mono hb1.size)) | (refine cA.mono ?_; rintro e w1 ⟨rfl, hb1⟩)) | (go_at_call 13; refine (c9 _ hb2').mono ?_; rintro e w4 ⟨rfl, hb4⟩))
        go_ret
        exact ⟨by first | rfl | simp, hb2'.trans (hb4.mono hb2'.size)⟩
end
theorem sets_apart (m : Nat) (hm : m < 6) (i j : Nat) (hi : i < 256) (hj : j < 256) : (lookT (tabS m) i).2 = true → (lookT (tabS m) j).2 = true → (i = j ∧ (lookT (tabS m) i).1 = (lookT (tabS m) j).1 ∨ i ≠ j ∧ (lookT (tabS m) i).1 ≠ (lookT (tabS m) j).1) := by
  have key : ∀ (T : List (List ByteArray)) (L : List Int), rowOf T = L → distinctFrom L = true → (∀ k : Fin 256, (lookT T k).2 = true → 0 ≤ (lookT T k).1 ∧ (lookT T k).1 ≤ 1114111) →
      (lookT T i).2 = true → (lookT T j).2 = true → (i = j ∧ (lookT T i).1 = (lookT T j).1 ∨ i ≠ j ∧ (lookT T i).1 ≠ (lookT T j).1) := by
    intro T L h1 h2 h3 hi2 hj2
    have hap := decide_eq_decide.1 (apart_of L h1 h2 i j hi hj hi2 hj2 (h3 ⟨i, hi⟩ hi2).1 (h3 ⟨j, hj⟩ hj2).1)
    by_cases hq : i = j
    · exact .inl ⟨hq, hap.2 hq⟩
    · exact .inr ⟨hq, fun e => hq (hap.1 e)⟩
  match m, hm with
  | 0, _ => exact key _ _ greek_row greek_distinct greek_found
  | 1, _ => exact key _ _ hebrew_row hebrew_distinct hebrew_found
  | 2, _ => exact key _ _ arabic_row arabic_distinct arabic_found
  | 3, _ => exact key _ _ moreArabic_row moreArabic_distinct moreArabic_found
  | 4, _ => exact key _ _ cyrillic_row cyrillic_distinct cyrillic_found
  | 5, _ => exact key _ _ moreCyrill_row moreCyrill_distinct moreCyrill_found
theorem walk5 (s : Int) (s0 : 0 ≤ s) (s1 : s ≤ 255) (a : Int) (a0 : 0 ≤ a) (a1 : a ≤ 255) (b : Int) (b0 : 0 ≤ b) (b1 : b ≤ 255) (w : World) (hT : Tabs w) : Calls Tryd.prog 5 #[.int .u8 s, .int .u8 a, .int .u8 b] w fun e w' => e = .returned (.bool true) ∧ Below w.heap.size w w' := by
  obtain ⟨i, rfl⟩ : ∃ i : Nat, a = i := ⟨a.toNat, by omega⟩
  obtain ⟨j, rfl⟩ : ∃ j : Nat, b = j := ⟨b.toNat, by omega⟩
  have hi : i < 256 := by omega
  have hj : j < 256 := by omega
  obtain ⟨m, hm⟩ : ∃ m : Nat, s % 6 = m := ⟨(s % 6).toNat, by omega⟩
  have hm6 : m < 6 := by omega
  exact walk5core s s0 s1 i j hi hj w hT _ _ _ _ (by rw [hm]; exact rune_any m hm6 i w hT) (fun W hb => by rw [hm]; exact rune_any m hm6 j W (hT.below hb)) (sets_apart m hm6 i j hi hj)
end Go.Proofs.YtlakeehjchmkdaaDoor.Look
