/-
 Closed facts of the program, each by itself.
-/
import Derived.Test.YtdcbnkimjhefkaaGreatDoorRows
import Derived.JoinedCond
namespace Go.Proofs.YtdcbnkimjhefkaaGreatDoor
open Go
set_option maxRecDepth 100000
theorem andI {a b : Bool} (ha : a = true) (hb : b = true) : (a && b) = true := by rw [ha, hb]; rfl
theorem pf_row0 : (List.range' 0 12).all (rowFine Tryz.prog) = true := by kernel_rfl
theorem pf_row1 : (List.range' 12 12).all (rowFine Tryz.prog) = true := by kernel_rfl
theorem pf_row2 : (List.range' 24 12).all (rowFine Tryz.prog) = true := by kernel_rfl
theorem pf_row3 : (List.range' 36 12).all (rowFine Tryz.prog) = true := by kernel_rfl
theorem pf_row4 : (List.range' 48 12).all (rowFine Tryz.prog) = true := by kernel_rfl
theorem pf_row5 : (List.range' 60 12).all (rowFine Tryz.prog) = true := by kernel_rfl
theorem pf_row6 : (List.range' 72 12).all (rowFine Tryz.prog) = true := by kernel_rfl
theorem pf_row7 : (List.range' 84 12).all (rowFine Tryz.prog) = true := by kernel_rfl
theorem pf_row8 : (List.range' 96 12).all (rowFine Tryz.prog) = true := by kernel_rfl
theorem pf_row9 : (List.range' 108 12).all (rowFine Tryz.prog) = true := by kernel_rfl
theorem pf_row10 : (List.range' 120 12).all (rowFine Tryz.prog) = true := by kernel_rfl
theorem pf_row11 : (List.range' 132 12).all (rowFine Tryz.prog) = true := by kernel_rfl
theorem pf_row12 : (List.range' 144 12).all (rowFine Tryz.prog) = true := by kernel_rfl
theorem pf_row13 : (List.range' 156 12).all (rowFine Tryz.prog) = true := by kernel_rfl
theorem pf_row14 : (List.range' 168 12).all (rowFine Tryz.prog) = true := by kernel_rfl
theorem pf_row15 : (List.range' 180 12).all (rowFine Tryz.prog) = true := by kernel_rfl
theorem pf_row16 : (List.range' 192 12).all (rowFine Tryz.prog) = true := by kernel_rfl
theorem pf_row17 : (List.range' 204 12).all (rowFine Tryz.prog) = true := by kernel_rfl
theorem pf_row18 : (List.range' 216 12).all (rowFine Tryz.prog) = true := by kernel_rfl
theorem pf_row19 : (List.range' 228 12).all (rowFine Tryz.prog) = true := by kernel_rfl
theorem pf_row20 : (List.range' 240 12).all (rowFine Tryz.prog) = true := by kernel_rfl
theorem pf_row21 : (List.range' 252 12).all (rowFine Tryz.prog) = true := by kernel_rfl
theorem pf_row22 : (List.range' 264 12).all (rowFine Tryz.prog) = true := by kernel_rfl
theorem pf_row23 : (List.range' 276 12).all (rowFine Tryz.prog) = true := by kernel_rfl
theorem pf_row24 : (List.range' 288 12).all (rowFine Tryz.prog) = true := by kernel_rfl
theorem pf_row25 : (List.range' 300 12).all (rowFine Tryz.prog) = true := by kernel_rfl
theorem pf_row26 : (List.range' 312 12).all (rowFine Tryz.prog) = true := by kernel_rfl
theorem pf_row27 : (List.range' 324 12).all (rowFine Tryz.prog) = true := by kernel_rfl
theorem pf_row28 : (List.range' 336 12).all (rowFine Tryz.prog) = true := by kernel_rfl
theorem pf_row29 : (List.range' 348 12).all (rowFine Tryz.prog) = true := by kernel_rfl
theorem pf_row30 : (List.range' 360 12).all (rowFine Tryz.prog) = true := by kernel_rfl
theorem pf_row31 : (List.range' 372 12).all (rowFine Tryz.prog) = true := by kernel_rfl
theorem pf_row32 : (List.range' 384 12).all (rowFine Tryz.prog) = true := by kernel_rfl
theorem pf_row33 : (List.range' 396 12).all (rowFine Tryz.prog) = true := by kernel_rfl
theorem pf_row34 : (List.range' 408 12).all (rowFine Tryz.prog) = true := by kernel_rfl
theorem pf_row35 : (List.range' 420 12).all (rowFine Tryz.prog) = true := by kernel_rfl
theorem pf_row36 : (List.range' 432 12).all (rowFine Tryz.prog) = true := by kernel_rfl
theorem pf_row37 : (List.range' 444 12).all (rowFine Tryz.prog) = true := by kernel_rfl
theorem pf_row38 : (List.range' 456 12).all (rowFine Tryz.prog) = true := by kernel_rfl
theorem pf_row39 : (List.range' 468 12).all (rowFine Tryz.prog) = true := by kernel_rfl
theorem pf_row40 : (List.range' 480 12).all (rowFine Tryz.prog) = true := by kernel_rfl
theorem pf_row41 : (List.range' 492 12).all (rowFine Tryz.prog) = true := by kernel_rfl
theorem pf_row42 : (List.range' 504 12).all (rowFine Tryz.prog) = true := by kernel_rfl
theorem pf_row43 : (List.range' 516 12).all (rowFine Tryz.prog) = true := by kernel_rfl
theorem pf_row44 : (List.range' 528 12).all (rowFine Tryz.prog) = true := by kernel_rfl
theorem pf_row45 : (List.range' 540 12).all (rowFine Tryz.prog) = true := by kernel_rfl
theorem pf_row46 : (List.range' 552 12).all (rowFine Tryz.prog) = true := by kernel_rfl
theorem pf_row47 : (List.range' 564 12).all (rowFine Tryz.prog) = true := by kernel_rfl
theorem pf_row48 : (List.range' 576 12).all (rowFine Tryz.prog) = true := by kernel_rfl
theorem pf_row49 : (List.range' 588 12).all (rowFine Tryz.prog) = true := by kernel_rfl
theorem pf_row50 : (List.range' 600 12).all (rowFine Tryz.prog) = true := by kernel_rfl
theorem pf_row51 : (List.range' 612 12).all (rowFine Tryz.prog) = true := by kernel_rfl
theorem pf_row52 : (List.range' 624 12).all (rowFine Tryz.prog) = true := by kernel_rfl
theorem pf_row53 : (List.range' 636 12).all (rowFine Tryz.prog) = true := by kernel_rfl
theorem pf_row54 : (List.range' 648 12).all (rowFine Tryz.prog) = true := by kernel_rfl
theorem pf_row55 : (List.range' 660 12).all (rowFine Tryz.prog) = true := by kernel_rfl
theorem pf_row56 : (List.range' 672 12).all (rowFine Tryz.prog) = true := by kernel_rfl
theorem pf_row57 : (List.range' 684 12).all (rowFine Tryz.prog) = true := by kernel_rfl
theorem pf_row58 : (List.range' 696 12).all (rowFine Tryz.prog) = true := by kernel_rfl
theorem pf_row59 : (List.range' 708 12).all (rowFine Tryz.prog) = true := by kernel_rfl
theorem pf_row60 : (List.range' 720 12).all (rowFine Tryz.prog) = true := by kernel_rfl
theorem pf_row61 : (List.range' 732 12).all (rowFine Tryz.prog) = true := by kernel_rfl
theorem pf_row62 : (List.range' 744 12).all (rowFine Tryz.prog) = true := by kernel_rfl
theorem pf_row63 : (List.range' 756 12).all (rowFine Tryz.prog) = true := by kernel_rfl
theorem pf_row64 : (List.range' 768 12).all (rowFine Tryz.prog) = true := by kernel_rfl
theorem pf_row65 : (List.range' 780 6).all (rowFine Tryz.prog) = true := by kernel_rfl
theorem pf_types : Tryz.prog.types.size = 786 := by kernel_rfl
theorem pf_globs : Tryz.prog.globals.all (fun g => decide (g.type < Tryz.prog.types.size)) = true := by kernel_rfl
theorem pf_funcs : Tryz.prog.funcs.all (fun f => f.params.all fun t => decide (t < Tryz.prog.types.size)) = true := by kernel_rfl
theorem range_cut (f : Nat → Bool) (a k m : Nat) (h1 : (List.range' a k).all f = true) (h2 : (List.range' (a + k) m).all f = true) : (List.range' a (k + m)).all f = true := by
 have e : List.range' a (k + m) = List.range' a k ++ List.range' (a + k) m := by rw [List.range'_append_1]
 rw [e, List.all_append, h1, h2]
 rfl
theorem pf_rows : (List.range Tryz.prog.types.size).all (rowFine Tryz.prog) = true := by
 rw [pf_types, List.range_eq_range']
 exact (range_cut (rowFine Tryz.prog) 0 12 774 pf_row0 (range_cut (rowFine Tryz.prog) 12 12 762 pf_row1 (range_cut (rowFine Tryz.prog) 24 12 750 pf_row2 (range_cut (rowFine Tryz.prog) 36 12 738 pf_row3 (range_cut (rowFine Tryz.prog) 48 12 726 pf_row4 (range_cut (rowFine Tryz.prog) 60 12 714 pf_row5 (range_cut (rowFine Tryz.prog) 72 12 702 pf_row6 (range_cut (rowFine Tryz.prog) 84 12 690 pf_row7 (range_cut (rowFine Tryz.prog) 96 12 678 pf_row8 (range_cut (rowFine Tryz.prog) 108 12 666 pf_row9 (range_cut (rowFine Tryz.prog) 120 12 654 pf_row10 (range_cut (rowFine Tryz.prog) 132 12 642 pf_row11 (range_cut (rowFine Tryz.prog) 144 12 630 pf_row12 (range_cut (rowFine Tryz.prog) 156 12 618 pf_row13 (range_cut (rowFine Tryz.prog) 168 12 606 pf_row14 (range_cut (rowFine Tryz.prog) 180 12 594 pf_row15 (range_cut (rowFine Tryz.prog) 192 12 582 pf_row16 (range_cut (rowFine Tryz.prog) 204 12 570 pf_row17 (range_cut (rowFine Tryz.prog) 216 12 558 pf_row18 (range_cut (rowFine Tryz.prog) 228 12 546 pf_row19 (range_cut (rowFine Tryz.prog) 240 12 534 pf_row20 (range_cut (rowFine Tryz.prog) 252 12 522 pf_row21 (range_cut (rowFine Tryz.prog) 264 12 510 pf_row22 (range_cut (rowFine Tryz.prog) 276 12 498 pf_row23 (range_cut (rowFine Tryz.prog) 288 12 486 pf_row24 (range_cut (rowFine Tryz.prog) 300 12 474 pf_row25 (range_cut (rowFine Tryz.prog) 312 12 462 pf_row26 (range_cut (rowFine Tryz.prog) 324 12 450 pf_row27 (range_cut (rowFine Tryz.prog) 336 12 438 pf_row28 (range_cut (rowFine Tryz.prog) 348 12 426 pf_row29 (range_cut (rowFine Tryz.prog) 360 12 414 pf_row30 (range_cut (rowFine Tryz.prog) 372 12 402 pf_row31 (range_cut (rowFine Tryz.prog) 384 12 390 pf_row32 (range_cut (rowFine Tryz.prog) 396 12 378 pf_row33 (range_cut (rowFine Tryz.prog) 408 12 366 pf_row34 (range_cut (rowFine Tryz.prog) 420 12 354 pf_row35 (range_cut (rowFine Tryz.prog) 432 12 342 pf_row36 (range_cut (rowFine Tryz.prog) 444 12 330 pf_row37 (range_cut (rowFine Tryz.prog) 456 12 318 pf_row38 (range_cut (rowFine Tryz.prog) 468 12 306 pf_row39 (range_cut (rowFine Tryz.prog) 480 12 294 pf_row40 (range_cut (rowFine Tryz.prog) 492 12 282 pf_row41 (range_cut (rowFine Tryz.prog) 504 12 270 pf_row42 (range_cut (rowFine Tryz.prog) 516 12 258 pf_row43 (range_cut (rowFine Tryz.prog) 528 12 246 pf_row44 (range_cut (rowFine Tryz.prog) 540 12 234 pf_row45 (range_cut (rowFine Tryz.prog) 552 12 222 pf_row46 (range_cut (rowFine Tryz.prog) 564 12 210 pf_row47 (range_cut (rowFine Tryz.prog) 576 12 198 pf_row48 (range_cut (rowFine Tryz.prog) 588 12 186 pf_row49 (range_cut (rowFine Tryz.prog) 600 12 174 pf_row50 (range_cut (rowFine Tryz.prog) 612 12 162 pf_row51 (range_cut (rowFine Tryz.prog) 624 12 150 pf_row52 (range_cut (rowFine Tryz.prog) 636 12 138 pf_row53 (range_cut (rowFine Tryz.prog) 648 12 126 pf_row54 (range_cut (rowFine Tryz.prog) 660 12 114 pf_row55 (range_cut (rowFine Tryz.prog) 672 12 102 pf_row56 (range_cut (rowFine Tryz.prog) 684 12 90 pf_row57 (range_cut (rowFine Tryz.prog) 696 12 78 pf_row58 (range_cut (rowFine Tryz.prog) 708 12 66 pf_row59 (range_cut (rowFine Tryz.prog) 720 12 54 pf_row60 (range_cut (rowFine Tryz.prog) 732 12 42 pf_row61 (range_cut (rowFine Tryz.prog) 744 12 30 pf_row62 (range_cut (rowFine Tryz.prog) 756 12 18 pf_row63 (range_cut (rowFine Tryz.prog) 768 12 6 pf_row64 pf_row65)))))))))))))))))))))))))))))))))))))))))))))))))))))))))))))))))
theorem pf_laidOut : laidOutB Tryz.prog = true := by
 unfold laidOutB
 exact andI (andI pf_rows pf_globs) pf_funcs
theorem pf_mapsRowed : (mapsRowed Tryz.prog) = true := by kernel_rfl
theorem pf_stops : ((Tryz.prog.stops == [])) = true := by kernel_rfl
theorem pf_knobs : ((Tryz.prog.stopKnobs == [])) = true := by kernel_rfl
theorem pf_heard : (Tryz.prog.stopsHeard) = true := by kernel_rfl
theorem pf_enter : (Tryz.prog.mayEnter) = true := by kernel_rfl
end Go.Proofs.YtdcbnkimjhefkaaGreatDoor
