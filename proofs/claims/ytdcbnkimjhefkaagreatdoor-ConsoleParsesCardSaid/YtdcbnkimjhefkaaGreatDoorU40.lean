/-
 Closed facts of the row of consoleParses, each by itself.
 Closed facts of the card of consoleParses, each by itself.
 The tie of ConsoleParses' row: the list is that of ConsoleLaws.
-/
import Derived.Test.YtdcbnkimjhefkaaGreatDoorU39
import Derived.Test.YtdcbnkimjhefkaaGreatDoorCards
import Derived.Test.YtdcbnkimjhefkaaGreatDoorU02
namespace Go.Proofs.YtdcbnkimjhefkaaGreatDoor.consoleParses
open Go
set_option maxRecDepth 100000
def cloL : List Nat := [4, 12, 28, 17, 35, 61, 111, 158, 214, 159, 160, 161, 215, 36, 62, 112, 162, 216, 217, 273, 163, 218, 164, 64, 63, 65, 66, 113, 165, 219, 274, 275, 114, 166, 220, 167, 168, 51, 85, 129, 172, 173, 223, 222, 224, 174, 175, 225, 226, 276, 277, 221, 169, 45, 77, 122, 123, 78, 67, 37, 68, 115, 38, 8, 23, 50, 79, 11, 24, 25, 26, 46, 48, 47, 27, 49, 80, 81, 124, 125, 126, 127, 128, 82, 83, 84, 52, 86, 87, 88, 130, 178, 227, 228, 278, 329, 375, 429, 430, 493, 494, 559, 348, 342, 388, 341, 387, 452, 495, 560, 399, 462, 461, 521, 496, 561, 330, 376, 431, 434, 433, 432, 377, 435, 378, 436, 437, 497, 562, 602, 603, 604, 503, 564, 438, 439, 498, 499, 440, 500, 563, 605, 501, 629, 638, 643, 644, 645, 646, 647, 648, 649, 441, 502, 442, 450, 650, 331, 279, 332, 379, 443, 444, 445, 446, 504, 463, 447, 505, 565, 566, 449, 448, 333, 335, 336, 381, 334, 380, 337, 382, 383, 338, 384, 451, 506, 507, 508, 509, 510, 513, 567, 606, 630, 639, 568, 511, 512, 179, 131, 180, 229, 280, 339, 340, 385, 386, 231, 230, 281, 282, 181, 232, 182, 98, 147, 97, 145, 202, 146, 204, 266, 203, 257, 263, 320, 258, 315, 259, 316, 317, 260, 318, 319, 371, 261, 262, 264, 265, 183, 233, 283, 343, 389, 395, 456, 390, 453, 391, 392, 454, 455, 514, 393, 394, 396, 397, 234, 284, 285, 235, 237, 286, 344, 398, 457, 515, 569, 570, 607, 571, 572, 608, 609, 610, 516, 574, 576, 575, 573, 458, 517, 459, 518, 460, 519, 577, 520, 578, 345, 400, 401, 346, 402, 464, 465, 522, 523, 466, 467, 524, 468, 525, 526, 403, 469, 470, 527, 528, 579, 580, 582, 585, 611, 631, 529, 530, 581, 531, 532, 404, 360, 361, 269, 422, 533, 583, 584, 347, 271, 287, 349, 288, 350, 405, 365, 205, 243, 242, 302, 309, 367, 425, 426, 420, 421, 418, 489, 551, 552, 599, 553, 554, 600, 601, 628, 555, 556, 557, 558, 491, 490, 268, 290, 239, 289, 351, 406, 471, 472, 473, 407, 474, 408, 352, 409, 410, 475, 476, 487, 550, 591, 592, 625, 593, 594, 626, 627, 637, 595, 596, 597, 598, 534, 411, 353, 412, 477, 535, 536, 586, 612, 613, 632, 614, 615, 633, 634, 640, 616, 617, 618, 619, 537, 539, 538, 293, 488, 413, 354, 414, 478, 540, 479, 542, 541, 543, 480, 544, 587, 620, 547, 590, 623, 624, 636, 642, 355, 415, 481, 482, 483, 545, 588, 621, 635, 641, 622, 484, 546, 589, 356, 416, 238, 292, 485, 486, 301, 548, 549, 357, 417, 358, 419, 184, 236, 291, 359, 294, 149, 148, 240, 295, 185, 186, 241, 296, 299, 300, 362, 423, 297, 298, 132, 187, 133, 188, 244, 245, 74, 189, 246, 303, 308, 363, 368, 427, 492, 304, 247, 305, 249, 307, 366, 248, 306, 364, 424, 207, 190, 250, 251, 310, 191, 192, 134, 193, 89, 135, 91, 137, 90, 136, 92, 93, 138, 194, 252, 311, 369, 176, 312, 253, 139, 195, 254, 313, 370, 314, 94, 141, 199, 140, 196, 197, 198, 255, 142, 143, 200, 256, 201, 53, 95, 96, 144, 99, 100, 101, 150, 152, 102, 151, 206, 103, 105, 155, 212, 270, 154, 208, 209, 210, 267, 321, 322, 372, 323, 324, 373, 374, 428, 325, 326, 327, 328, 211, 156, 104, 153, 106, 157, 213, 272, 107, 13, 15, 30, 58, 32, 57, 59, 31, 33, 34, 60, 110, 14, 29, 54, 39, 56, 55, 109, 69, 70, 116, 170, 171, 117, 108, 72, 16, 18, 40, 41, 71, 42, 19]
theorem cloE : Tryz.prog.closure 4 = cloL := closure_of 3000 (by kernel_rfl)
theorem unf : Tryz.prog.unfollowed 4 = true := unfollowed_of cloE 63 (by kernel_rfl) (by kernel_rfl)
theorem j10 : ((Rows.consoleParsesRow.inPlace == Tryz.prog.inPlace 4)) = true := by rw [inPlace_of cloE]; kernel_rfl
theorem j11 : ((Rows.consoleParsesRow.unfollowed == Tryz.prog.unfollowed 4)) = true := by rw [unf]; kernel_rfl
theorem j12 : ((Rows.consoleParsesRow.recurses == Tryz.prog.recurses 4)) = true := by rw [recurses_of unf]; kernel_rfl
theorem j13 : ((Rows.consoleParsesRow.named == Tryz.prog.varsNamed 4)) = true := by rw [varsNamed_of cloE]; kernel_rfl
theorem j1 : (Rows.consoleParsesRow.wf (OpenSpec.ofChange (OpenSpec.ofChange Rows.consoleParsesSpec).bare)) = true := by kernel_rfl
theorem j4 : (Tryz.f4.params.all (Tryz.prog.readableRec ·)) = true := by kernel_rfl
theorem j5 : (namedTie Tryz.prog Rows.consoleParsesRow.named (OpenSpec.ofChange Rows.consoleParsesSpec).bare.vars) = true := by kernel_rfl
theorem j6 : ((Rows.consoleParsesRow.stops == [])) = true := by kernel_rfl
theorem j8 : ((Rows.consoleParsesRow.knobs == [])) = true := by kernel_rfl
theorem j14 : ((Rows.consoleParsesRow.maps == (Tryz.f4.params.toList ++ (OpenSpec.ofChange Rows.consoleParsesSpec).bare.plain.varTypes Tryz.prog).any (Tryz.prog.mapsRec ·))) = true := by kernel_rfl
theorem j15 : ((Rows.consoleParsesRow.ifaces == (Tryz.f4.params.toList ++ (OpenSpec.ofChange Rows.consoleParsesSpec).bare.plain.varTypes Tryz.prog).any (Tryz.prog.ifacesRec ·))) = true := by kernel_rfl
theorem j16 : ((Rows.consoleParsesRow.mapsOut == Tryz.prog.mapsAmong Tryz.f4.resultTypes.toList)) = true := by kernel_rfl
theorem j17 : ((Rows.consoleParsesRow.loops == (Tryz.f4.params.toList ++ (OpenSpec.ofChange Rows.consoleParsesSpec).bare.plain.varTypes Tryz.prog).any (Tryz.prog.loopsFrom ·))) = true := by kernel_rfl
theorem j18 : ((Rows.consoleParsesRow.wideKeys == (Tryz.f4.params.toList ++ (OpenSpec.ofChange Rows.consoleParsesSpec).bare.plain.varTypes Tryz.prog ++ Tryz.f4.resultTypes.toList).any (Tryz.prog.wideKeysFrom ·))) = true := by kernel_rfl
theorem j19 : ((OpenSpec.ofChange Rows.consoleParsesSpec).bare.vars.all (Tryz.prog.varReadable ·)) = true := by kernel_rfl
theorem j20 : (Tryz.f4.resultTypes.all (fun t => Tryz.prog.readableRec t && decide (t < Tryz.prog.types.size))) = true := by kernel_rfl
theorem j21 : ((Rows.consoleParsesRow.ifacesOut == Tryz.f4.resultTypes.toList.any (Tryz.prog.ifacesRec ·))) = true := by kernel_rfl
theorem j22 : ((Rows.consoleParsesRow.loopsOut == Tryz.f4.resultTypes.toList.any (Tryz.prog.loopsFrom ·))) = true := by kernel_rfl
theorem j23 : ((Rows.consoleParsesRow.plainKeys == Tryz.prog.plainKeys)) = true := by kernel_rfl
theorem j24 : (Rows.consoleParsesRow.shortTexts.isNone) = true := by kernel_rfl
theorem j27 : ((Rows.consoleParsesRow.lifted == Tryz.prog.liftsFinal)) = true := by kernel_rfl
theorem j28 : ((Tryz.prog.make == some Rows.consoleParsesRow.make)) = true := by kernel_rfl
theorem j29 : ((Rows.consoleParsesRow.kinds == (if Rows.consoleParsesRow.domain.isEmpty then [] else Tryz.f4.params.toList.map fun t => match Tryz.prog.underlying t with | some (.int k) => some k | _ => none))) = true := by kernel_rfl
theorem j30 : ((Rows.consoleParsesRow.pinned == Rows.consoleParsesRow.pinnedBy)) = true := by kernel_rfl
theorem j31 : ((Rows.consoleParsesRow.veiled == (Tryz.f4.params.toList ++ (OpenSpec.ofChange Rows.consoleParsesSpec).bare.plain.varTypes Tryz.prog ++ Tryz.f4.resultTypes.toList).any (Tryz.prog.veiledRec ·))) = true := by kernel_rfl
theorem j32 : (Rows.consoleParsesRow.veiledFits Tryz.prog Tryz.f4.params.toList (Tryz.f4.params.toList ++ (OpenSpec.ofChange Rows.consoleParsesSpec).bare.plain.varTypes Tryz.prog ++ Tryz.f4.resultTypes.toList)) = true := by kernel_rfl
theorem closed : joinedFacts Tryz.prog 4 Tryz.f4 (OpenSpec.ofChange Rows.consoleParsesSpec).bare Rows.consoleParsesRow = true := by
 unfold joinedFacts
 exact andI (andI (andI (andI (andI (andI (andI (andI (andI (andI (andI (andI (andI (andI (andI (andI (andI (andI (andI (andI (andI (andI (andI (andI (andI (andI (andI (andI (andI (andI (andI j1 pf_laidOut) pf_mapsRowed) j4) j5) j6) pf_stops) j8) pf_knobs) j10) j11) j12) j13) j14) j15) j16) j17) j18) j19) j20) j21) j22) j23) j24) pf_heard) pf_enter) j27) j28) j29) j30) j31) j32
theorem isInst : Tryz.f4.isInstance Tryz.pinned.checked.prog Rows.consoleParsesRow.origin Rows.consoleParsesRow.targs := of_decide_eq_true (by kernel_rfl)
theorem isWrap : Tryz.f4.isWrapper Tryz.pinned.checked.prog Rows.consoleParsesRow.wrapper Rows.consoleParsesRow.mainSum := by unfold Func.isWrapper; first | (rw [if_pos (by decide +kernel)]; kernel_rfl) | (rw [if_neg (by decide +kernel)]; exact ⟨rfl, rfl⟩)
end Go.Proofs.YtdcbnkimjhefkaaGreatDoor.consoleParses

namespace Go.Proofs.YtdcbnkimjhefkaaGreatDoor.consoleParses
open Go
set_option maxRecDepth 100000
theorem named : Tryz.pinned.checked.prog.funcNamed "payroll/payrolllaw46.ConsoleParses" = some 4 := by kernel_rfl
theorem wfT : Rows.consoleParsesRow.wfByText (OpenSpec.ofChange Rows.consoleParsesSpec) = true := by kernel_rfl
theorem mainsT : Tryz.pinned.checked.prog.mainIs = some (Rows.consoleParsesCard.stood.harness.1, Rows.consoleParsesCard.stood.harness.2.toList) := by kernel_rfl
theorem looksT : true = Tryz.pinned.checked.prog.looks [] := by kernel_rfl
theorem goesT : false = Rows.consoleParsesRow.goesBy Tryz.pinned.checked.prog := (goesAt_not _).symm
end Go.Proofs.YtdcbnkimjhefkaaGreatDoor.consoleParses

namespace Go.Proofs.YtdcbnkimjhefkaaGreatDoor
open Go
set_option maxRecDepth 100000
theorem consoleParses_row_tie : Rows.consoleParsesRow.laidByTextAt .later Tryz.pinned [.pinned, .data, .data, .sentinel, .sentinel, .data, .data, .data, .data, .data, .data] true :=
 OpenClaim.laidByTextAt_pinned rfl rfl tieAll rfl rfl rfl rfl (fun y hy _e => by
  simp only [Rows.consoleParsesRow, List.zip_cons_cons, List.zip_nil_right, List.mem_cons, List.mem_nil_iff, or_false] at hy
  rcases hy with rfl | rfl | rfl | rfl | rfl | rfl | rfl | rfl | rfl | rfl | rfl
  ·exact ⟨pinFirst, by kernel_rfl⟩
  ·cases _e
  ·cases _e
  ·cases _e
  ·cases _e
  ·cases _e
  ·cases _e
  ·cases _e
  ·cases _e
  ·cases _e
  ·cases _e) fitsAll
end Go.Proofs.YtdcbnkimjhefkaaGreatDoor
