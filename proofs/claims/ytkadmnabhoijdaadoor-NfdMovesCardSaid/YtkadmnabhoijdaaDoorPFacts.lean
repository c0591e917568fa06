/- The texts of pairs: what is asked of each line; the table. -/
import Derived.Test.YtkadmnabhoijdaaDoorNew2
set_option linter.unusedVariables false
namespace Go.Proofs.YtkadmnabhoijdaaDoor.New
open Go Go.RowKit Go.Shelf Go.Proofs Go.Proofs.YtkadmnabhoijdaaDoor.Seq Go.Proofs.YtkadmnabhoijdaaDoor.Hex Go.Proofs.YtkadmnabhoijdaaDoor.FF

def ba (l : List UInt8) : ByteArray := ⟨l.toArray⟩
theorem ba_cut (m l : List UInt8) : (ba (m ++ 32 :: l)).extract 0 m.length = ba m ∧ (ba (m ++ 32 :: l)).extract (m.length + 1) (ba (m ++ 32 :: l)).size = ba l := by
  constructor
  · apply ByteArray.ext
    rw [ByteArray.data_extract]
    apply Array.toList_inj.1
    simp [ba]
  · apply ByteArray.ext
    rw [ByteArray.data_extract]
    apply Array.toList_inj.1
    simp [ba, ByteArray.size]
    exact List.take_of_length_le (by omega)
def x0 : ByteArray := ba (l0M ++ 32 :: l0L)
def x1 : ByteArray := ba (l1M ++ 32 :: l1L)
def x2 : ByteArray := ba (l2M ++ 32 :: l2L)
def x3 : ByteArray := ba (l3M ++ 32 :: l3L)
def x4 : ByteArray := ba (l4M ++ 32 :: l4L)
def x5 : ByteArray := ba (l5M ++ 32 :: l5L)
def x6 : ByteArray := ba (l6M ++ 32 :: l6L)
def x7 : ByteArray := ba (l7M ++ 32 :: l7L)
def x8 : ByteArray := ba (l8M ++ 32 :: l8L)
def x9 : ByteArray := ba (l9M ++ 32 :: l9L)
def x10 : ByteArray := ba (l10M ++ 32 :: l10L)
def x11 : ByteArray := ba (l11M ++ 32 :: l11L)
def x12 : ByteArray := ba (l12M ++ 32 :: l12L)
def x13 : ByteArray := ba (l13M ++ 32 :: l13L)
def x14 : ByteArray := ba (l14M ++ 32 :: l14L)
def x15 : ByteArray := ba (l15M ++ 32 :: l15L)
def x16 : ByteArray := ba (l16M ++ 32 :: l16L)
def x17 : ByteArray := ba (l17M ++ 32 :: l17L)
def x18 : ByteArray := ba (l18M ++ 32 :: l18L)
def x19 : ByteArray := ba (l19M ++ 32 :: l19L)
def x20 : ByteArray := ba (l20M ++ 32 :: l20L)
def x21 : ByteArray := ba (l21M ++ 32 :: l21L)
def x22 : ByteArray := ba (l22M ++ 32 :: l22L)
def x23 : ByteArray := ba (l23M ++ 32 :: l23L)
def x24 : ByteArray := ba (l24M ++ 32 :: l24L)
def x25 : ByteArray := ba (l25M ++ 32 :: l25L)
def lineT : List (List UInt8 × List P4) := [(l0M, pairsOf 768 l0R), (l1M, pairsOf 769 l1R), (l2M, pairsOf 770 l2R), (l3M, pairsOf 771 l3R), (l4M, pairsOf 772 l4R), (l5M, pairsOf 774 l5R), (l6M, pairsOf 775 l6R), (l7M, pairsOf 776 l7R), (l8M, pairsOf 777 l8R), (l9M, pairsOf 778 l9R), (l10M, pairsOf 779 l10R), (l11M, pairsOf 780 l11R), (l12M, pairsOf 795 l12R), (l13M, pairsOf 803 l13R), (l14M, pairsOf 807 l14R), (l15M, pairsOf 808 l15R), (l16M, pairsOf 817 l16R), (l17M, pairsOf 834 l17R), (l18M, pairsOf 837 l18R), (l19M, pairsOf 787 l19R), (l20M, pairsOf 788 l20R), (l21M, pairsOf 1619 l21R), (l22M, pairsOf 1620 l22R), (l23M, pairsOf 1621 l23R), (l24M, pairsOf 12441 l24R), (l25M, pairsOf 12442 l25R)]
def fL (x : ByteArray) : List P4 := ((lineT.find? (fun r => r.1 == x.data.toList.take 4)).map (·.2)).getD []
theorem line0 : ∃ m l v rs, LineIs x0 m l v rs ∧ fL x0 = pairsOf v rs :=
  ⟨ba l0M, ba l0L, 768, l0R, ⟨⟨4, index_at 32 l0M l0L (by decide), by decide +kernel, (ba_cut _ _).1, (ba_cut _ _).2⟩, by decide +kernel, by decide +kernel, by decide +kernel, by decide +kernel, by decide, by kernel_rfl, by decide +kernel⟩, by decide +kernel⟩
theorem line1 : ∃ m l v rs, LineIs x1 m l v rs ∧ fL x1 = pairsOf v rs :=
  ⟨ba l1M, ba l1L, 769, l1R, ⟨⟨4, index_at 32 l1M l1L (by decide), by decide +kernel, (ba_cut _ _).1, (ba_cut _ _).2⟩, by decide +kernel, by decide +kernel, by decide +kernel, by decide +kernel, by decide, by kernel_rfl, by decide +kernel⟩, by decide +kernel⟩
theorem line2 : ∃ m l v rs, LineIs x2 m l v rs ∧ fL x2 = pairsOf v rs :=
  ⟨ba l2M, ba l2L, 770, l2R, ⟨⟨4, index_at 32 l2M l2L (by decide), by decide +kernel, (ba_cut _ _).1, (ba_cut _ _).2⟩, by decide +kernel, by decide +kernel, by decide +kernel, by decide +kernel, by decide, by kernel_rfl, by decide +kernel⟩, by decide +kernel⟩
theorem line3 : ∃ m l v rs, LineIs x3 m l v rs ∧ fL x3 = pairsOf v rs :=
  ⟨ba l3M, ba l3L, 771, l3R, ⟨⟨4, index_at 32 l3M l3L (by decide), by decide +kernel, (ba_cut _ _).1, (ba_cut _ _).2⟩, by decide +kernel, by decide +kernel, by decide +kernel, by decide +kernel, by decide, by kernel_rfl, by decide +kernel⟩, by decide +kernel⟩
theorem line4 : ∃ m l v rs, LineIs x4 m l v rs ∧ fL x4 = pairsOf v rs :=
  ⟨ba l4M, ba l4L, 772, l4R, ⟨⟨4, index_at 32 l4M l4L (by decide), by decide +kernel, (ba_cut _ _).1, (ba_cut _ _).2⟩, by decide +kernel, by decide +kernel, by decide +kernel, by decide +kernel, by decide, by kernel_rfl, by decide +kernel⟩, by decide +kernel⟩
theorem line5 : ∃ m l v rs, LineIs x5 m l v rs ∧ fL x5 = pairsOf v rs :=
  ⟨ba l5M, ba l5L, 774, l5R, ⟨⟨4, index_at 32 l5M l5L (by decide), by decide +kernel, (ba_cut _ _).1, (ba_cut _ _).2⟩, by decide +kernel, by decide +kernel, by decide +kernel, by decide +kernel, by decide, by kernel_rfl, by decide +kernel⟩, by decide +kernel⟩
theorem line6 : ∃ m l v rs, LineIs x6 m l v rs ∧ fL x6 = pairsOf v rs :=
  ⟨ba l6M, ba l6L, 775, l6R, ⟨⟨4, index_at 32 l6M l6L (by decide), by decide +kernel, (ba_cut _ _).1, (ba_cut _ _).2⟩, by decide +kernel, by decide +kernel, by decide +kernel, by decide +kernel, by decide, by kernel_rfl, by decide +kernel⟩, by decide +kernel⟩
theorem line7 : ∃ m l v rs, LineIs x7 m l v rs ∧ fL x7 = pairsOf v rs :=
  ⟨ba l7M, ba l7L, 776, l7R, ⟨⟨4, index_at 32 l7M l7L (by decide), by decide +kernel, (ba_cut _ _).1, (ba_cut _ _).2⟩, by decide +kernel, by decide +kernel, by decide +kernel, by decide +kernel, by decide, by kernel_rfl, by decide +kernel⟩, by decide +kernel⟩
theorem line8 : ∃ m l v rs, LineIs x8 m l v rs ∧ fL x8 = pairsOf v rs :=
  ⟨ba l8M, ba l8L, 777, l8R, ⟨⟨4, index_at 32 l8M l8L (by decide), by decide +kernel, (ba_cut _ _).1, (ba_cut _ _).2⟩, by decide +kernel, by decide +kernel, by decide +kernel, by decide +kernel, by decide, by kernel_rfl, by decide +kernel⟩, by decide +kernel⟩
theorem line9 : ∃ m l v rs, LineIs x9 m l v rs ∧ fL x9 = pairsOf v rs :=
  ⟨ba l9M, ba l9L, 778, l9R, ⟨⟨4, index_at 32 l9M l9L (by decide), by decide +kernel, (ba_cut _ _).1, (ba_cut _ _).2⟩, by decide +kernel, by decide +kernel, by decide +kernel, by decide +kernel, by decide, by kernel_rfl, by decide +kernel⟩, by decide +kernel⟩
theorem line10 : ∃ m l v rs, LineIs x10 m l v rs ∧ fL x10 = pairsOf v rs :=
  ⟨ba l10M, ba l10L, 779, l10R, ⟨⟨4, index_at 32 l10M l10L (by decide), by decide +kernel, (ba_cut _ _).1, (ba_cut _ _).2⟩, by decide +kernel, by decide +kernel, by decide +kernel, by decide +kernel, by decide, by kernel_rfl, by decide +kernel⟩, by decide +kernel⟩
theorem line11 : ∃ m l v rs, LineIs x11 m l v rs ∧ fL x11 = pairsOf v rs :=
  ⟨ba l11M, ba l11L, 780, l11R, ⟨⟨4, index_at 32 l11M l11L (by decide), by decide +kernel, (ba_cut _ _).1, (ba_cut _ _).2⟩, by decide +kernel, by decide +kernel, by decide +kernel, by decide +kernel, by decide, by kernel_rfl, by decide +kernel⟩, by decide +kernel⟩
theorem line12 : ∃ m l v rs, LineIs x12 m l v rs ∧ fL x12 = pairsOf v rs :=
  ⟨ba l12M, ba l12L, 795, l12R, ⟨⟨4, index_at 32 l12M l12L (by decide), by decide +kernel, (ba_cut _ _).1, (ba_cut _ _).2⟩, by decide +kernel, by decide +kernel, by decide +kernel, by decide +kernel, by decide, by kernel_rfl, by decide +kernel⟩, by decide +kernel⟩
theorem line13 : ∃ m l v rs, LineIs x13 m l v rs ∧ fL x13 = pairsOf v rs :=
  ⟨ba l13M, ba l13L, 803, l13R, ⟨⟨4, index_at 32 l13M l13L (by decide), by decide +kernel, (ba_cut _ _).1, (ba_cut _ _).2⟩, by decide +kernel, by decide +kernel, by decide +kernel, by decide +kernel, by decide, by kernel_rfl, by decide +kernel⟩, by decide +kernel⟩
theorem line14 : ∃ m l v rs, LineIs x14 m l v rs ∧ fL x14 = pairsOf v rs :=
  ⟨ba l14M, ba l14L, 807, l14R, ⟨⟨4, index_at 32 l14M l14L (by decide), by decide +kernel, (ba_cut _ _).1, (ba_cut _ _).2⟩, by decide +kernel, by decide +kernel, by decide +kernel, by decide +kernel, by decide, by kernel_rfl, by decide +kernel⟩, by decide +kernel⟩
theorem line15 : ∃ m l v rs, LineIs x15 m l v rs ∧ fL x15 = pairsOf v rs :=
  ⟨ba l15M, ba l15L, 808, l15R, ⟨⟨4, index_at 32 l15M l15L (by decide), by decide +kernel, (ba_cut _ _).1, (ba_cut _ _).2⟩, by decide +kernel, by decide +kernel, by decide +kernel, by decide +kernel, by decide, by kernel_rfl, by decide +kernel⟩, by decide +kernel⟩
theorem line16 : ∃ m l v rs, LineIs x16 m l v rs ∧ fL x16 = pairsOf v rs :=
  ⟨ba l16M, ba l16L, 817, l16R, ⟨⟨4, index_at 32 l16M l16L (by decide), by decide +kernel, (ba_cut _ _).1, (ba_cut _ _).2⟩, by decide +kernel, by decide +kernel, by decide +kernel, by decide +kernel, by decide, by kernel_rfl, by decide +kernel⟩, by decide +kernel⟩
theorem line17 : ∃ m l v rs, LineIs x17 m l v rs ∧ fL x17 = pairsOf v rs :=
  ⟨ba l17M, ba l17L, 834, l17R, ⟨⟨4, index_at 32 l17M l17L (by decide), by decide +kernel, (ba_cut _ _).1, (ba_cut _ _).2⟩, by decide +kernel, by decide +kernel, by decide +kernel, by decide +kernel, by decide, by kernel_rfl, by decide +kernel⟩, by decide +kernel⟩
theorem line18 : ∃ m l v rs, LineIs x18 m l v rs ∧ fL x18 = pairsOf v rs :=
  ⟨ba l18M, ba l18L, 837, l18R, ⟨⟨4, index_at 32 l18M l18L (by decide), by decide +kernel, (ba_cut _ _).1, (ba_cut _ _).2⟩, by decide +kernel, by decide +kernel, by decide +kernel, by decide +kernel, by decide, by kernel_rfl, by decide +kernel⟩, by decide +kernel⟩
theorem line19 : ∃ m l v rs, LineIs x19 m l v rs ∧ fL x19 = pairsOf v rs :=
  ⟨ba l19M, ba l19L, 787, l19R, ⟨⟨4, index_at 32 l19M l19L (by decide), by decide +kernel, (ba_cut _ _).1, (ba_cut _ _).2⟩, by decide +kernel, by decide +kernel, by decide +kernel, by decide +kernel, by decide, by kernel_rfl, by decide +kernel⟩, by decide +kernel⟩
theorem line20 : ∃ m l v rs, LineIs x20 m l v rs ∧ fL x20 = pairsOf v rs :=
  ⟨ba l20M, ba l20L, 788, l20R, ⟨⟨4, index_at 32 l20M l20L (by decide), by decide +kernel, (ba_cut _ _).1, (ba_cut _ _).2⟩, by decide +kernel, by decide +kernel, by decide +kernel, by decide +kernel, by decide, by kernel_rfl, by decide +kernel⟩, by decide +kernel⟩
theorem line21 : ∃ m l v rs, LineIs x21 m l v rs ∧ fL x21 = pairsOf v rs :=
  ⟨ba l21M, ba l21L, 1619, l21R, ⟨⟨4, index_at 32 l21M l21L (by decide), by decide +kernel, (ba_cut _ _).1, (ba_cut _ _).2⟩, by decide +kernel, by decide +kernel, by decide +kernel, by decide +kernel, by decide, by kernel_rfl, by decide +kernel⟩, by decide +kernel⟩
theorem line22 : ∃ m l v rs, LineIs x22 m l v rs ∧ fL x22 = pairsOf v rs :=
  ⟨ba l22M, ba l22L, 1620, l22R, ⟨⟨4, index_at 32 l22M l22L (by decide), by decide +kernel, (ba_cut _ _).1, (ba_cut _ _).2⟩, by decide +kernel, by decide +kernel, by decide +kernel, by decide +kernel, by decide, by kernel_rfl, by decide +kernel⟩, by decide +kernel⟩
theorem line23 : ∃ m l v rs, LineIs x23 m l v rs ∧ fL x23 = pairsOf v rs :=
  ⟨ba l23M, ba l23L, 1621, l23R, ⟨⟨4, index_at 32 l23M l23L (by decide), by decide +kernel, (ba_cut _ _).1, (ba_cut _ _).2⟩, by decide +kernel, by decide +kernel, by decide +kernel, by decide +kernel, by decide, by kernel_rfl, by decide +kernel⟩, by decide +kernel⟩
theorem line24 : ∃ m l v rs, LineIs x24 m l v rs ∧ fL x24 = pairsOf v rs :=
  ⟨ba l24M, ba l24L, 12441, l24R, ⟨⟨4, index_at 32 l24M l24L (by decide), by decide +kernel, (ba_cut _ _).1, (ba_cut _ _).2⟩, by decide +kernel, by decide +kernel, by decide +kernel, by decide +kernel, by decide, by kernel_rfl, by decide +kernel⟩, by decide +kernel⟩
theorem line25 : ∃ m l v rs, LineIs x25 m l v rs ∧ fL x25 = pairsOf v rs :=
  ⟨ba l25M, ba l25L, 12442, l25R, ⟨⟨4, index_at 32 l25M l25L (by decide), by decide +kernel, (ba_cut _ _).1, (ba_cut _ _).2⟩, by decide +kernel, by decide +kernel, by decide +kernel, by decide +kernel, by decide, by kernel_rfl, by decide +kernel⟩, by decide +kernel⟩
def xsL : List ByteArray := [x0, x1, x2, x3, x4, x5, x6, x7, x8, x9, x10, x11, x12, x13, x14, x15, x16, x17, x18, x19, x20, x21, x22, x23, x24, x25]
theorem lines_all : linesIs xsL fL := by
  intro x hx
  simp only [xsL, List.mem_cons, List.not_mem_nil, or_false] at hx
  rcases hx with rfl | rfl | rfl | rfl | rfl | rfl | rfl | rfl | rfl | rfl | rfl | rfl | rfl | rfl | rfl | rfl | rfl | rfl | rfl | rfl | rfl | rfl | rfl | rfl | rfl | rfl
  · exact line0
  · exact line1
  · exact line2
  · exact line3
  · exact line4
  · exact line5
  · exact line6
  · exact line7
  · exact line8
  · exact line9
  · exact line10
  · exact line11
  · exact line12
  · exact line13
  · exact line14
  · exact line15
  · exact line16
  · exact line17
  · exact line18
  · exact line19
  · exact line20
  · exact line21
  · exact line22
  · exact line23
  · exact line24
  · exact line25
theorem text_splits : Splits 10 textS xsL := by
  have h := splits_join 10 (textL.headD []) textL.tail (by decide +kernel)
  exact h
def y0 : ByteArray := ba [48, 51, 52, 48, 32, 48, 51, 48, 48]
def y1 : ByteArray := ba [48, 51, 52, 49, 32, 48, 51, 48, 49]
def y2 : ByteArray := ba [48, 51, 52, 51, 32, 48, 51, 49, 51]
def y3 : ByteArray := ba [48, 51, 52, 52, 32, 48, 51, 48, 56, 32, 48, 51, 48, 49]
def y4 : ByteArray := ba [48, 51, 55, 52, 32, 48, 50, 66, 57]
def y5 : ByteArray := ba [48, 51, 55, 69, 32, 48, 48, 51, 66]
def y6 : ByteArray := ba [48, 51, 56, 55, 32, 48, 48, 66, 55]
def y7 : ByteArray := ba [50, 49, 50, 54, 32, 48, 51, 65, 57]
def y8 : ByteArray := ba [50, 49, 50, 65, 32, 48, 48, 52, 66]
def y9 : ByteArray := ba [50, 49, 50, 66, 32, 48, 48, 67, 53]
def y10 : ByteArray := ba [70, 66, 50, 69, 32, 48, 53, 68, 48, 32, 48, 53, 66, 55]
def y11 : ByteArray := ba [70, 66, 50, 70, 32, 48, 53, 68, 48, 32, 48, 53, 66, 56]
def wordT : List (ByteArray × P4) := [(y0, (832, 768, 0, false)), (y1, (833, 769, 0, false)), (y2, (835, 787, 0, false)), (y3, (836, 776, 769, false)), (y4, (884, 697, 0, false)), (y5, (894, 59, 0, false)), (y6, (903, 183, 0, false)), (y7, (8486, 937, 0, false)), (y8, (8490, 75, 0, false)), (y9, (8491, 197, 0, false)), (y10, (64302, 1488, 1463, false)), (y11, (64303, 1488, 1464, false))]
def gL (x : ByteArray) : P4 := ((wordT.find? (fun r => decide (r.1 = x))).map (·.2)).getD (0, 0, 0, false)
theorem word0 : ∃ fw s0 s1 s2 a b c, WordIs y0 fw s0 s1 s2 a b c ∧ gL y0 = ((a : Int), (b : Int), (c : Int), false) :=
  ⟨[ba [48, 51, 52, 48], ba [48, 51, 48, 48]], ba [48, 51, 52, 48], ba [48, 51, 48, 48], ba [48], 832, 768, 0, ⟨by decide +kernel, by decide +kernel, by decide, by decide +kernel, by decide +kernel, by decide +kernel, ⟨by decide +kernel, by decide +kernel, by decide +kernel, by decide⟩, ⟨by decide +kernel, by decide +kernel, by decide +kernel, by decide⟩, ⟨by decide +kernel, by decide +kernel, by decide +kernel, by decide⟩⟩, by decide +kernel⟩
theorem word1 : ∃ fw s0 s1 s2 a b c, WordIs y1 fw s0 s1 s2 a b c ∧ gL y1 = ((a : Int), (b : Int), (c : Int), false) :=
  ⟨[ba [48, 51, 52, 49], ba [48, 51, 48, 49]], ba [48, 51, 52, 49], ba [48, 51, 48, 49], ba [48], 833, 769, 0, ⟨by decide +kernel, by decide +kernel, by decide, by decide +kernel, by decide +kernel, by decide +kernel, ⟨by decide +kernel, by decide +kernel, by decide +kernel, by decide⟩, ⟨by decide +kernel, by decide +kernel, by decide +kernel, by decide⟩, ⟨by decide +kernel, by decide +kernel, by decide +kernel, by decide⟩⟩, by decide +kernel⟩
theorem word2 : ∃ fw s0 s1 s2 a b c, WordIs y2 fw s0 s1 s2 a b c ∧ gL y2 = ((a : Int), (b : Int), (c : Int), false) :=
  ⟨[ba [48, 51, 52, 51], ba [48, 51, 49, 51]], ba [48, 51, 52, 51], ba [48, 51, 49, 51], ba [48], 835, 787, 0, ⟨by decide +kernel, by decide +kernel, by decide, by decide +kernel, by decide +kernel, by decide +kernel, ⟨by decide +kernel, by decide +kernel, by decide +kernel, by decide⟩, ⟨by decide +kernel, by decide +kernel, by decide +kernel, by decide⟩, ⟨by decide +kernel, by decide +kernel, by decide +kernel, by decide⟩⟩, by decide +kernel⟩
theorem word3 : ∃ fw s0 s1 s2 a b c, WordIs y3 fw s0 s1 s2 a b c ∧ gL y3 = ((a : Int), (b : Int), (c : Int), false) :=
  ⟨[ba [48, 51, 52, 52], ba [48, 51, 48, 56], ba [48, 51, 48, 49]], ba [48, 51, 52, 52], ba [48, 51, 48, 56], ba [48, 51, 48, 49], 836, 776, 769, ⟨by decide +kernel, by decide +kernel, by decide, by decide +kernel, by decide +kernel, by decide +kernel, ⟨by decide +kernel, by decide +kernel, by decide +kernel, by decide⟩, ⟨by decide +kernel, by decide +kernel, by decide +kernel, by decide⟩, ⟨by decide +kernel, by decide +kernel, by decide +kernel, by decide⟩⟩, by decide +kernel⟩
theorem word4 : ∃ fw s0 s1 s2 a b c, WordIs y4 fw s0 s1 s2 a b c ∧ gL y4 = ((a : Int), (b : Int), (c : Int), false) :=
  ⟨[ba [48, 51, 55, 52], ba [48, 50, 66, 57]], ba [48, 51, 55, 52], ba [48, 50, 66, 57], ba [48], 884, 697, 0, ⟨by decide +kernel, by decide +kernel, by decide, by decide +kernel, by decide +kernel, by decide +kernel, ⟨by decide +kernel, by decide +kernel, by decide +kernel, by decide⟩, ⟨by decide +kernel, by decide +kernel, by decide +kernel, by decide⟩, ⟨by decide +kernel, by decide +kernel, by decide +kernel, by decide⟩⟩, by decide +kernel⟩
theorem word5 : ∃ fw s0 s1 s2 a b c, WordIs y5 fw s0 s1 s2 a b c ∧ gL y5 = ((a : Int), (b : Int), (c : Int), false) :=
  ⟨[ba [48, 51, 55, 69], ba [48, 48, 51, 66]], ba [48, 51, 55, 69], ba [48, 48, 51, 66], ba [48], 894, 59, 0, ⟨by decide +kernel, by decide +kernel, by decide, by decide +kernel, by decide +kernel, by decide +kernel, ⟨by decide +kernel, by decide +kernel, by decide +kernel, by decide⟩, ⟨by decide +kernel, by decide +kernel, by decide +kernel, by decide⟩, ⟨by decide +kernel, by decide +kernel, by decide +kernel, by decide⟩⟩, by decide +kernel⟩
theorem word6 : ∃ fw s0 s1 s2 a b c, WordIs y6 fw s0 s1 s2 a b c ∧ gL y6 = ((a : Int), (b : Int), (c : Int), false) :=
  ⟨[ba [48, 51, 56, 55], ba [48, 48, 66, 55]], ba [48, 51, 56, 55], ba [48, 48, 66, 55], ba [48], 903, 183, 0, ⟨by decide +kernel, by decide +kernel, by decide, by decide +kernel, by decide +kernel, by decide +kernel, ⟨by decide +kernel, by decide +kernel, by decide +kernel, by decide⟩, ⟨by decide +kernel, by decide +kernel, by decide +kernel, by decide⟩, ⟨by decide +kernel, by decide +kernel, by decide +kernel, by decide⟩⟩, by decide +kernel⟩
theorem word7 : ∃ fw s0 s1 s2 a b c, WordIs y7 fw s0 s1 s2 a b c ∧ gL y7 = ((a : Int), (b : Int), (c : Int), false) :=
  ⟨[ba [50, 49, 50, 54], ba [48, 51, 65, 57]], ba [50, 49, 50, 54], ba [48, 51, 65, 57], ba [48], 8486, 937, 0, ⟨by decide +kernel, by decide +kernel, by decide, by decide +kernel, by decide +kernel, by decide +kernel, ⟨by decide +kernel, by decide +kernel, by decide +kernel, by decide⟩, ⟨by decide +kernel, by decide +kernel, by decide +kernel, by decide⟩, ⟨by decide +kernel, by decide +kernel, by decide +kernel, by decide⟩⟩, by decide +kernel⟩
theorem word8 : ∃ fw s0 s1 s2 a b c, WordIs y8 fw s0 s1 s2 a b c ∧ gL y8 = ((a : Int), (b : Int), (c : Int), false) :=
  ⟨[ba [50, 49, 50, 65], ba [48, 48, 52, 66]], ba [50, 49, 50, 65], ba [48, 48, 52, 66], ba [48], 8490, 75, 0, ⟨by decide +kernel, by decide +kernel, by decide, by decide +kernel, by decide +kernel, by decide +kernel, ⟨by decide +kernel, by decide +kernel, by decide +kernel, by decide⟩, ⟨by decide +kernel, by decide +kernel, by decide +kernel, by decide⟩, ⟨by decide +kernel, by decide +kernel, by decide +kernel, by decide⟩⟩, by decide +kernel⟩
theorem word9 : ∃ fw s0 s1 s2 a b c, WordIs y9 fw s0 s1 s2 a b c ∧ gL y9 = ((a : Int), (b : Int), (c : Int), false) :=
  ⟨[ba [50, 49, 50, 66], ba [48, 48, 67, 53]], ba [50, 49, 50, 66], ba [48, 48, 67, 53], ba [48], 8491, 197, 0, ⟨by decide +kernel, by decide +kernel, by decide, by decide +kernel, by decide +kernel, by decide +kernel, ⟨by decide +kernel, by decide +kernel, by decide +kernel, by decide⟩, ⟨by decide +kernel, by decide +kernel, by decide +kernel, by decide⟩, ⟨by decide +kernel, by decide +kernel, by decide +kernel, by decide⟩⟩, by decide +kernel⟩
theorem word10 : ∃ fw s0 s1 s2 a b c, WordIs y10 fw s0 s1 s2 a b c ∧ gL y10 = ((a : Int), (b : Int), (c : Int), false) :=
  ⟨[ba [70, 66, 50, 69], ba [48, 53, 68, 48], ba [48, 53, 66, 55]], ba [70, 66, 50, 69], ba [48, 53, 68, 48], ba [48, 53, 66, 55], 64302, 1488, 1463, ⟨by decide +kernel, by decide +kernel, by decide, by decide +kernel, by decide +kernel, by decide +kernel, ⟨by decide +kernel, by decide +kernel, by decide +kernel, by decide⟩, ⟨by decide +kernel, by decide +kernel, by decide +kernel, by decide⟩, ⟨by decide +kernel, by decide +kernel, by decide +kernel, by decide⟩⟩, by decide +kernel⟩
theorem word11 : ∃ fw s0 s1 s2 a b c, WordIs y11 fw s0 s1 s2 a b c ∧ gL y11 = ((a : Int), (b : Int), (c : Int), false) :=
  ⟨[ba [70, 66, 50, 70], ba [48, 53, 68, 48], ba [48, 53, 66, 56]], ba [70, 66, 50, 70], ba [48, 53, 68, 48], ba [48, 53, 66, 56], 64303, 1488, 1464, ⟨by decide +kernel, by decide +kernel, by decide, by decide +kernel, by decide +kernel, by decide +kernel, ⟨by decide +kernel, by decide +kernel, by decide +kernel, by decide⟩, ⟨by decide +kernel, by decide +kernel, by decide +kernel, by decide⟩, ⟨by decide +kernel, by decide +kernel, by decide +kernel, by decide⟩⟩, by decide +kernel⟩
def ysL : List ByteArray := [y0, y1, y2, y3, y4, y5, y6, y7, y8, y9, y10, y11]
theorem words_all : wordsIs ysL gL := by
  intro x hx
  simp only [ysL, List.mem_cons, List.not_mem_nil, or_false] at hx
  rcases hx with rfl | rfl | rfl | rfl | rfl | rfl | rfl | rfl | rfl | rfl | rfl | rfl
  · exact word0
  · exact word1
  · exact word2
  · exact word3
  · exact word4
  · exact word5
  · exact word6
  · exact word7
  · exact word8
  · exact word9
  · exact word10
  · exact word11
theorem alone_splits : Splits 44 aloneS ysL := by
  have h := splits_join 44 (aloneL.headD []) aloneL.tail (by decide +kernel)
  exact h

/-- A sort, to hold the table against what is gathered. -/
def insP (p : P4) : List P4 → List P4
  | [] => [p]
  | q :: l => if p.1 ≤ q.1 then p :: q :: l else q :: insP p l
def sortP : List P4 → List P4
  | [] => []
  | p :: l => insP p (sortP l)
theorem insP_perm (p : P4) : ∀ l : List P4, (insP p l).Perm (p :: l)
  | [] => List.Perm.refl _
  | q :: l => by
    unfold insP
    split
    · exact List.Perm.refl _
    · exact ((insP_perm p l).cons q).trans (List.Perm.swap p q l)
theorem sortP_perm : ∀ l : List P4, (sortP l).Perm l
  | [] => List.Perm.refl _
  | p :: l => (insP_perm p (sortP l)).trans ((sortP_perm l).cons p)
theorem gathered : xsL.flatMap fL ++ ysL.map gL = joinedT ++ aloneT := by decide +kernel
theorem table_sorted : sortP (joinedT ++ aloneT) = tableT := by decide +kernel
def risingP : List P4 → Bool
  | a :: b :: l => decide (a.1 < b.1) && risingP (b :: l)
  | _ => true
theorem rising_lt : ∀ l : List P4, risingP l = true → l.Pairwise (fun a b => a.1 < b.1)
  | [], _ => List.Pairwise.nil
  | [a], _ => by simp
  | a :: b :: l, h => by
    simp only [risingP, Bool.and_eq_true, decide_eq_true_eq] at h
    have ih := rising_lt (b :: l) h.2
    refine List.pairwise_cons.2 ⟨fun x hx => ?_, ih⟩
    rcases List.mem_cons.1 hx with rfl | hx
    · exact h.1
    · have := (List.pairwise_cons.1 ih).1 x hx
      omega
theorem table_rising : tableT.Pairwise (fun a b => a.1 < b.1) := rising_lt _ (by decide +kernel)
theorem pairwise_keys : ∀ l : List P4, l.Pairwise (fun a b => a.1 < b.1) → ∀ a ∈ l, ∀ b ∈ l, a.1 = b.1 → a = b
  | [], _, a, ha, _, _, _ => by cases ha
  | c :: l, h, a, ha, b, hb, e => by
    have h1 := (List.pairwise_cons.1 h).1
    rcases List.mem_cons.1 ha with ea | ha2
    · rcases List.mem_cons.1 hb with eb | hb2
      · rw [ea, eb]
      · have := h1 b hb2
        rw [← ea] at this
        omega
    · rcases List.mem_cons.1 hb with eb | hb2
      · have := h1 a ha2
        rw [← eb] at this
        omega
      · exact pairwise_keys l (List.pairwise_cons.1 h).2 a ha2 b hb2 e
theorem table_bound : (joinedT ++ aloneT).all (fun p => decide (0 ≤ p.1) && decide (p.1 ≤ 1114111)) = true := by decide +kernel
theorem table_of {T : List P4} (hp : T.Perm (joinedT ++ aloneT)) (hs : T.Pairwise (fun a b => a.1 ≤ b.1)) : T = tableT := by
  have hp2 : tableT.Perm (joinedT ++ aloneT) := by rw [← table_sorted]; exact sortP_perm _
  refine (eq_of_sorted tableT T (hp2.trans hp.symm) (table_rising.imp (fun h => Int.le_of_lt h)) hs (pairwise_keys _ table_rising)).symm

set_option maxRecDepth 100000 in
/-- pairs.New, with its table. -/
theorem newT (w : World) (hT : TabsN w) : Calls Tryd.prog 27 #[] w fun e w' =>
    ∃ b cap, e = .returned (.slice (some ⟨b, 0, none⟩) 572 cap) ∧ w.heap.size ≤ b ∧ b < w'.heap.size ∧ (∀ j v, (cells4 tableT)[j]? = some v → w'.cell? ⟨b, j, none⟩ = some v) ∧ Below w.heap.size w w' := by
  have h := new xsL ysL fL text_splits (by decide +kernel) lines_all (by decide +kernel) gL alone_splits (by decide +kernel) words_all (by decide) (by
    rw [gathered]
    intro p hp
    have := List.all_eq_true.1 table_bound p hp
    simpa using this) (by decide) w hT
  rw [gathered] at h
  refine h.mono ?_
  rintro e w' ⟨T, b, cap, rfl, hp, hs, h1, h2, h3, h4⟩
  obtain rfl := table_of hp hs
  exact ⟨b, cap, rfl, h1, h2, h3, h4⟩
end Go.Proofs.YtkadmnabhoijdaaDoor.New
