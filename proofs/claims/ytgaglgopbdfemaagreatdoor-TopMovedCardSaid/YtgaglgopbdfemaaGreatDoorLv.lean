import Derived.Test.YtgaglgopbdfemaaGreatDoorProg
import Derived.Test.YtgaglgopbdfemaaGreatDoorEvS
/- The closed run of the sanity check: where it is cut, and what is known there. -/
set_option linter.all false
set_option maxRecDepth 100000
set_option maxHeartbeats 0
namespace Go.Proofs.YtgaglgopbdfemaaGreatDoor.Liv
open Go Go.Proofs Go.Proofs.YtgaglgopbdfemaaGreatDoor.Evl
noncomputable def tab : Tab := Tab.of Tryz.prog
noncomputable def EV : CallT := evF Tryz.prog tab 2000 40
noncomputable def body : Code := ((Tryz.prog.funcs[11]?).bind (·.body)).getD .skip
abbrev i (n : Int) : Cl := .p (.v (.int .i64 n))
abbrev b (x : Bool) : Cl := .p (.v (.bool x))
abbrev z : Cl := .p (.v (.slice none 0 0))
def V0 : List (Nat × AV) := []
def B0 : List (Nat × Bk) := []
def V1 : List (Nat × AV) := [(0, .o (.c (b false)))]
def B1 : List (Nat × Bk) := []
def V2 : List (Nat × AV) := [(0, .o (.c (b false))), (1, .o (.c (.p (.ptr 3 0))))]
def B2 : List (Nat × Bk) := [(0, .row [i 0, i 5] 3 none),
 (1, .row [i 0, i 7] 3 none),
 (2, .row [i 0, i 0, i 0, i 100, i 102, i 1] 39 none),
 (3, .row [i 0, i 0, i 0, i 0, i 0, i 0, i 10, .slc 0 0 2 (some 2), .slc 1 0 2 (some 2), .slc 2 0 1 (some 1), i 3] 33 none)]
def V3 : List (Nat × AV) := [(0, .o (.c (b false))), (1, .o (.c (.p (.ptr 3 0)))), (2, .o (.c (.p (.ptr 962 0)))), (3, .o (.c (i 0)))]
def B3 : List (Nat × Bk) := [(0, .row [i 0, i 5] 3 none),
 (1, .row [i 0, i 7] 3 none),
 (2, .row [i 0, i 0, i 0, i 100, i 102, i 1] 39 none),
 (3, .row [i 0, i 0, i 0, i 0, i 0, i 0, i 10, .slc 0 0 2 (some 2), .slc 1 0 2 (some 2), .slc 2 0 1 (some 1), i 3] 33 none),
 (962, .row [i 0, i 0, i 0, i 100, i 0, i 0, i 0, i 0, i 0, i 0, i 0, i 0] 42 none)]
def V4 : List (Nat × AV) := [(0, .o (.c (b false))), (1, .o (.c (.p (.ptr 3 0)))), (2, .o (.c (.p (.ptr 962 0)))), (3, .o (.c (i 0))), (4, .o (.c (.slc 1873 0 1 none))), (5, .o (.c (i 0)))]
def B4 : List (Nat × Bk) := [(0, .row [i 0, i 5] 3 none),
 (1, .row [i 0, i 7] 3 none),
 (2, .row [i 0, i 0, i 0, i 100, i 102, i 1] 39 none),
 (3, .row [i 0, i 0, i 0, i 0, i 0, i 0, i 10, .slc 0 0 2 (some 2), .slc 1 0 2 (some 2), .slc 2 0 1 (some 1), i 3] 33 none),
 (962, .row [i 0, i 0, i 0, i 100, i 0, i 0, i 0, i 0, i 0, i 0, i 0, i 0] 42 none),
 (1873, .row [i 0] 3 (some 1))]
def V5 : List (Nat × AV) := [(0, .o (.c (b false))), (1, .o (.c (.p (.ptr 3 0)))), (2, .o (.c (.p (.ptr 962 0)))), (3, .o (.c (i 0))), (4, .o (.c (.slc 1873 0 1 none))), (5, .o (.c (i 0))), (6, .o (.c (.p (.ptr 1874 0))))]
def B5 : List (Nat × Bk) := [(0, .row [i 0, i 5] 3 none),
 (1, .row [i 0, i 7] 3 none),
 (2, .row [i 0, i 0, i 0, i 100, i 102, i 1] 39 none),
 (3, .row [i 0, i 0, i 0, i 0, i 0, i 0, i 10, .slc 0 0 2 (some 2), .slc 1 0 2 (some 2), .slc 2 0 1 (some 1), i 3] 33 none),
 (962, .row [i 0, i 0, i 0, i 100, i 0, i 0, i 0, i 0, i 0, i 0, i 0, i 0] 42 none),
 (1873, .row [i 0] 3 (some 1)),
 (1874, .row [z, i 0] 49 none)]
def V6 : List (Nat × AV) := [(0, .o (.c (b false))), (1, .o (.c (.p (.ptr 3 0)))), (2, .o (.c (.p (.ptr 962 0)))), (3, .o (.c (i 0))), (4, .o (.c (.slc 1873 0 1 none))), (5, .o (.c (i 0))), (32, .o (.agg [i (-20), i (-20), i 0, i (-20), i (-20), i 0, i 20, .slc 2188 0 21 none, .slc 2230 0 21 none, i 10000, i 0, i 0, i 0, i 2, i 20, .slc 2139 0 21 none, .slc 2141 0 21 none, i 0, i 1, i 0, i 2, i 8, i 250, i 120, i 3, i 200, i 0, i 0, .slc 2238 0 1 none, i 0, i 0])), (34, .o (.agg [.slc 2293 0 3 none]))]
def B6 : List (Nat × Bk) := [(0, .row [i 0, i 5] 3 none),
 (1, .row [i 0, i 7] 3 none),
 (2, .row [i 0, i 0, i 0, i 100, i 102, i 1] 39 none),
 (3, .row [i 0, i 0, i 0, i 0, i 0, i 0, i 10, .slc 0 0 2 (some 2), .slc 1 0 2 (some 2), .slc 2 0 1 (some 1), i 3] 33 none),
 (962, .row [i 0, i 0, i 0, i 100, i 0, i 0, i 0, i 0, i 0, i 0, i 0, i 0] 42 none),
 (1873, .row [i 0] 3 (some 1)),
 (2139, .row [i 0, i 1, i 3, i 5, i 6, i 8, i 10, i 11, i 13, i 15, i 16, i 18, i 20, i 21, i 23, i 25, i 26, i 28, i 30, i 31, i 33] 3 (some 1)),
 (2141, .row [i 0, i 1, i 3, i 5, i 6, i 8, i 10, i 11, i 13, i 15, i 16, i 18, i 20, i 21, i 23, i 25, i 26, i 28, i 30, i 31, i 33] 3 (some 1)),
 (2188, .row [i 0, i 5000, i 10000, i 15000, i 20000, i 25000, i 30000, i 35000, i 40000, i 45000, i 50000, i 55000, i 60000, i 65000, i 70000, i 75000, i 80000, i 85000, i 90000, i 95000, i 100000] 3 (some 1)),
 (2230, .row [i 0, i 5000, i 10000, i 15000, i 20000, i 25000, i 30000, i 35000, i 40000, i 45000, i 50000, i 55000, i 60000, i 65000, i 70000, i 75000, i 80000, i 85000, i 90000, i 95000, i 100000] 3 (some 1)),
 (2238, .row [i (-100), i 1, i 0, i 0] 133 (some 4)),
 (2259, .row [i 0, i 1500000, i 100, i 1, i (-60), i (-60), i 0, z, i 1500000, i 100000000, i 100, i 1, i (-60), i (-60), i 0, z] 146 (some 8)),
 (2275, .row [i 0, i 1500000, i 100, i 1, i (-60), i (-60), i 0, z, i 1500000, i 100000000, i 100, i 1, i (-60), i (-60), i 0, z] 146 (some 8)),
 (2291, .row [i 0, i 1500000, i 100, i 1, i (-60), i (-60), i 0, z, i 1500000, i 100000000, i 100, i 1, i (-60), i (-60), i 0, z] 146 (some 8)),
 (2293, .row [.p (.v (.string ⟨#[65, 66]⟩)), .p (.v (.string ⟨#[83, 49]⟩)), .p (.v (.string ⟨#[48, 48]⟩)), .p (.v (.string ⟨#[66, 72, 90]⟩)), .slc 2259 0 2 none, .p (.v (.string ⟨#[65, 66]⟩)), .p (.v (.string ⟨#[83, 50]⟩)), .p (.v (.string ⟨#[48, 48]⟩)), .p (.v (.string ⟨#[66, 72, 90]⟩)), .slc 2275 0 2 none, .p (.v (.string ⟨#[65, 66]⟩)), .p (.v (.string ⟨#[83, 51]⟩)), .p (.v (.string ⟨#[48, 48]⟩)), .p (.v (.string ⟨#[66, 72, 90]⟩)), .slc 2291 0 2 none] 138 (some 5))]
def V7 : List (Nat × AV) := [(0, .o (.c (b false))), (1, .o (.c (.p (.ptr 3 0)))), (2, .o (.c (.p (.ptr 962 0)))), (3, .o (.c (i 0))), (4, .o (.c (.slc 1873 0 1 none))), (5, .o (.c (i 0))), (7, .o (.c (.p (.ptr 2529 0)))), (8, .o (.c (i 0)))]
def B7 : List (Nat × Bk) := [(0, .row [i 0, i 5] 3 none),
 (1, .row [i 0, i 7] 3 none),
 (2, .row [i 0, i 0, i 0, i 100, i 102, i 1] 39 none),
 (3, .row [i 0, i 0, i 0, i 0, i 0, i 0, i 10, .slc 0 0 2 (some 2), .slc 1 0 2 (some 2), .slc 2 0 1 (some 1), i 3] 33 none),
 (962, .row [i 0, i 0, i 0, i 100, i 0, i 0, i 0, i 0, i 0, i 0, i 0, i 0] 42 none),
 (1873, .row [i 0] 3 (some 1)),
 (2438, .row [i 0, i 5000, i 10000, i 15000, i 20000, i 25000, i 30000, i 35000, i 40000, i 45000, i 50000, i 55000, i 60000, i 65000, i 70000, i 75000, i 80000, i 85000, i 90000, i 95000, i 100000] 3 (some 1)),
 (2440, .row [i 0, i 5000, i 10000, i 15000, i 20000, i 25000, i 30000, i 35000, i 40000, i 45000, i 50000, i 55000, i 60000, i 65000, i 70000, i 75000, i 80000, i 85000, i 90000, i 95000, i 100000] 3 (some 1)),
 (2442, .row [i 0, i 1, i 3, i 5, i 6, i 8, i 10, i 11, i 13, i 15, i 16, i 18, i 20, i 21, i 23, i 25, i 26, i 28, i 30, i 31, i 33] 3 (some 1)),
 (2444, .row [i 0, i 1, i 3, i 5, i 6, i 8, i 10, i 11, i 13, i 15, i 16, i 18, i 20, i 21, i 23, i 25, i 26, i 28, i 30, i 31, i 33] 3 (some 1)),
 (2448, .row [i 0, i 1500000, i 100, i 1, i (-60), i (-60), i 0, z, i 1500000, i 100000000, i 100, i 1, i (-60), i (-60), i 0, z] 146 (some 8)),
 (2453, .row [i 0, i 1500000, i 100, i 1, i (-60), i (-60), i 0, z, i 1500000, i 100000000, i 100, i 1, i (-60), i (-60), i 0, z] 146 (some 8)),
 (2458, .row [i 0, i 1500000, i 100, i 1, i (-60), i (-60), i 0, z, i 1500000, i 100000000, i 100, i 1, i (-60), i (-60), i 0, z] 146 (some 8)),
 (2460, .row [.p (.v (.string ⟨#[65, 66]⟩)), .p (.v (.string ⟨#[83, 49]⟩)), .p (.v (.string ⟨#[48, 48]⟩)), .p (.v (.string ⟨#[66, 72, 90]⟩)), .slc 2448 0 2 none, .p (.v (.string ⟨#[65, 66]⟩)), .p (.v (.string ⟨#[83, 50]⟩)), .p (.v (.string ⟨#[48, 48]⟩)), .p (.v (.string ⟨#[66, 72, 90]⟩)), .slc 2453 0 2 none, .p (.v (.string ⟨#[65, 66]⟩)), .p (.v (.string ⟨#[83, 51]⟩)), .p (.v (.string ⟨#[48, 48]⟩)), .p (.v (.string ⟨#[66, 72, 90]⟩)), .slc 2458 0 2 none] 138 (some 5)),
 (2470, .row [i 0, i 5000, i 10000, i 15000, i 20000, i 25000, i 30000, i 35000, i 40000, i 45000, i 50000, i 55000, i 60000, i 65000, i 70000, i 75000, i 80000, i 85000, i 90000, i 95000, i 100000] 3 (some 1)),
 (2472, .row [i 0, i 5000, i 10000, i 15000, i 20000, i 25000, i 30000, i 35000, i 40000, i 45000, i 50000, i 55000, i 60000, i 65000, i 70000, i 75000, i 80000, i 85000, i 90000, i 95000, i 100000] 3 (some 1)),
 (2476, .row [i 0, i 1, i 3, i 5, i 6, i 8, i 10, i 11, i 13, i 15, i 16, i 18, i 20, i 21, i 23, i 25, i 26, i 28, i 30, i 31, i 33] 3 (some 1)),
 (2478, .row [i 0, i 1, i 3, i 5, i 6, i 8, i 10, i 11, i 13, i 15, i 16, i 18, i 20, i 21, i 23, i 25, i 26, i 28, i 30, i 31, i 33] 3 (some 1)),
 (2480, .row [i (-100), i 1, i 0, i 0] 133 (some 4)),
 (2483, .row [.p (.v (.string ⟨#[65, 66]⟩)), .p (.v (.string ⟨#[83, 49]⟩)), .p (.v (.string ⟨#[48, 48]⟩)), .p (.v (.string ⟨#[66, 72, 90]⟩)), .slc 2487 0 2 (some 2), .p (.v (.string ⟨#[65, 66]⟩)), .p (.v (.string ⟨#[83, 50]⟩)), .p (.v (.string ⟨#[48, 48]⟩)), .p (.v (.string ⟨#[66, 72, 90]⟩)), .slc 2502 0 2 (some 2), .p (.v (.string ⟨#[65, 66]⟩)), .p (.v (.string ⟨#[83, 51]⟩)), .p (.v (.string ⟨#[48, 48]⟩)), .p (.v (.string ⟨#[66, 72, 90]⟩)), .slc 2517 0 2 (some 2)] 138 none),
 (2487, .row [i 0, i 1500000, i 100, i 1, i (-60), i (-60), i 0, .slc 2491 0 0 (some 0), i 1500000, i 100000000, i 100, i 1, i (-60), i (-60), i 0, .slc 2496 0 0 (some 0)] 146 none),
 (2491, .row [] 269 none),
 (2496, .row [] 269 none),
 (2502, .row [i 0, i 1500000, i 100, i 1, i (-60), i (-60), i 0, .slc 2506 0 0 (some 0), i 1500000, i 100000000, i 100, i 1, i (-60), i (-60), i 0, .slc 2511 0 0 (some 0)] 146 none),
 (2506, .row [] 269 none),
 (2511, .row [] 269 none),
 (2517, .row [i 0, i 1500000, i 100, i 1, i (-60), i (-60), i 0, .slc 2521 0 0 (some 0), i 1500000, i 100000000, i 100, i 1, i (-60), i (-60), i 0, .slc 2526 0 0 (some 0)] 146 none),
 (2521, .row [] 269 none),
 (2526, .row [] 269 none),
 (2529, .row [i (-20), i (-20), i 0, i (-20), i (-20), i 0, i 20, .slc 2470 0 21 none, .slc 2472 0 21 none, i 10000, i 0, i 0, i 0, i 2, i 20, .slc 2476 0 21 none, .slc 2478 0 21 none, i 0, i 1, i 0, i 2, i 8, i 250, i 120, i 3, i 200, i 0, i 0, .slc 2480 0 1 none, i 0, i 0, i 0, .slc 2483 0 3 (some 3), z, z, i (-20), i (-20), i 0, i (-20), i (-20), i 0, i 20, .slc 2438 0 21 none, .slc 2440 0 21 none, i 10000, i 0, i 0, i 0, i 2, i 20, .slc 2442 0 21 none, .slc 2444 0 21 none, i 0, i 1, i 0, .slc 2460 0 3 none, z, z, z, z] 100 none)]
def V8 : List (Nat × AV) := [(0, .o (.c (b false))), (1, .o (.c (.p (.ptr 3 0)))), (2, .o (.c (.p (.ptr 962 0)))), (3, .o (.c (i 0))), (4, .o (.c (.slc 1873 0 1 none))), (5, .o (.c (i 0))), (8, .o (.c (i 0))), (9, .o (.c (.p (.ptr 3061 0)))), (11, .o (.c (i 0)))]
def B8 : List (Nat × Bk) := [(0, .row [i 0, i 5] 3 none),
 (1, .row [i 0, i 7] 3 none),
 (2, .row [i 0, i 0, i 0, i 100, i 102, i 1] 39 none),
 (3, .row [i 0, i 0, i 0, i 0, i 0, i 0, i 10, .slc 0 0 2 (some 2), .slc 1 0 2 (some 2), .slc 2 0 1 (some 1), i 3] 33 none),
 (962, .row [i 0, i 0, i 0, i 100, i 0, i 0, i 0, i 0, i 0, i 0, i 0, i 0] 42 none),
 (1873, .row [i 0] 3 (some 1)),
 (2541, .row [i 0, i 5000, i 10000, i 15000, i 20000, i 25000, i 30000, i 35000, i 40000, i 45000, i 50000, i 55000, i 60000, i 65000, i 70000, i 75000, i 80000, i 85000, i 90000, i 95000, i 100000] 3 (some 1)),
 (2543, .row [i 0, i 5000, i 10000, i 15000, i 20000, i 25000, i 30000, i 35000, i 40000, i 45000, i 50000, i 55000, i 60000, i 65000, i 70000, i 75000, i 80000, i 85000, i 90000, i 95000, i 100000] 3 (some 1)),
 (2547, .row [i 0, i 1, i 3, i 5, i 6, i 8, i 10, i 11, i 13, i 15, i 16, i 18, i 20, i 21, i 23, i 25, i 26, i 28, i 30, i 31, i 33] 3 (some 1)),
 (2549, .row [i 0, i 1, i 3, i 5, i 6, i 8, i 10, i 11, i 13, i 15, i 16, i 18, i 20, i 21, i 23, i 25, i 26, i 28, i 30, i 31, i 33] 3 (some 1)),
 (2551, .row [i (-100), i 1, i 0, i 0] 133 (some 4)),
 (2554, .row [.p (.v (.string ⟨#[65, 66]⟩)), .p (.v (.string ⟨#[83, 49]⟩)), .p (.v (.string ⟨#[48, 48]⟩)), .p (.v (.string ⟨#[66, 72, 90]⟩)), .slc 2558 0 2 (some 2), .p (.v (.string ⟨#[65, 66]⟩)), .p (.v (.string ⟨#[83, 50]⟩)), .p (.v (.string ⟨#[48, 48]⟩)), .p (.v (.string ⟨#[66, 72, 90]⟩)), .slc 2573 0 2 (some 2), .p (.v (.string ⟨#[65, 66]⟩)), .p (.v (.string ⟨#[83, 51]⟩)), .p (.v (.string ⟨#[48, 48]⟩)), .p (.v (.string ⟨#[66, 72, 90]⟩)), .slc 2588 0 2 (some 2)] 138 none),
 (2558, .row [i 0, i 1500000, i 100, i 1, i (-60), i (-60), i 0, .slc 2562 0 0 (some 0), i 1500000, i 100000000, i 100, i 1, i (-60), i (-60), i 0, .slc 2567 0 0 (some 0)] 146 none),
 (2562, .row [] 269 none),
 (2567, .row [] 269 none),
 (2573, .row [i 0, i 1500000, i 100, i 1, i (-60), i (-60), i 0, .slc 2577 0 0 (some 0), i 1500000, i 100000000, i 100, i 1, i (-60), i (-60), i 0, .slc 2582 0 0 (some 0)] 146 none),
 (2577, .row [] 269 none),
 (2582, .row [] 269 none),
 (2588, .row [i 0, i 1500000, i 100, i 1, i (-60), i (-60), i 0, .slc 2592 0 0 (some 0), i 1500000, i 100000000, i 100, i 1, i (-60), i (-60), i 0, .slc 2597 0 0 (some 0)] 146 none),
 (2592, .row [] 269 none),
 (2597, .row [] 269 none),
 (2600, .row [] 204 none),
 (2601, .row [] 209 none),
 (2983, .row [i 0, i 5000, i 10000, i 15000, i 20000, i 25000, i 30000, i 35000, i 40000, i 45000, i 50000, i 55000, i 60000, i 65000, i 70000, i 75000, i 80000, i 85000, i 90000, i 95000, i 100000] 3 (some 1)),
 (2985, .row [i 0, i 5000, i 10000, i 15000, i 20000, i 25000, i 30000, i 35000, i 40000, i 45000, i 50000, i 55000, i 60000, i 65000, i 70000, i 75000, i 80000, i 85000, i 90000, i 95000, i 100000] 3 (some 1)),
 (2987, .row [i 0, i 1, i 3, i 5, i 6, i 8, i 10, i 11, i 13, i 15, i 16, i 18, i 20, i 21, i 23, i 25, i 26, i 28, i 30, i 31, i 33] 3 (some 1)),
 (2989, .row [i 0, i 1, i 3, i 5, i 6, i 8, i 10, i 11, i 13, i 15, i 16, i 18, i 20, i 21, i 23, i 25, i 26, i 28, i 30, i 31, i 33] 3 (some 1)),
 (2993, .row [i 0, i 1500000, i 100, i 1, i (-60), i (-60), i 0, .slc 2994 0 0 (some 0), i 1500000, i 100000000, i 100, i 1, i (-60), i (-60), i 0, .slc 2995 0 0 (some 0)] 146 (some 8)),
 (2994, .row [] 269 none),
 (2995, .row [] 269 none),
 (3000, .row [i 0, i 1500000, i 100, i 1, i (-60), i (-60), i 0, .slc 3001 0 0 (some 0), i 1500000, i 100000000, i 100, i 1, i (-60), i (-60), i 0, .slc 3002 0 0 (some 0)] 146 (some 8)),
 (3001, .row [] 269 none),
 (3002, .row [] 269 none),
 (3007, .row [i 0, i 1500000, i 100, i 1, i (-60), i (-60), i 0, .slc 3008 0 0 (some 0), i 1500000, i 100000000, i 100, i 1, i (-60), i (-60), i 0, .slc 3009 0 0 (some 0)] 146 (some 8)),
 (3008, .row [] 269 none),
 (3009, .row [] 269 none),
 (3011, .row [.p (.v (.string ⟨#[65, 66]⟩)), .p (.v (.string ⟨#[83, 49]⟩)), .p (.v (.string ⟨#[48, 48]⟩)), .p (.v (.string ⟨#[66, 72, 90]⟩)), .slc 2993 0 2 none, .p (.v (.string ⟨#[65, 66]⟩)), .p (.v (.string ⟨#[83, 50]⟩)), .p (.v (.string ⟨#[48, 48]⟩)), .p (.v (.string ⟨#[66, 72, 90]⟩)), .slc 3000 0 2 none, .p (.v (.string ⟨#[65, 66]⟩)), .p (.v (.string ⟨#[83, 51]⟩)), .p (.v (.string ⟨#[48, 48]⟩)), .p (.v (.string ⟨#[66, 72, 90]⟩)), .slc 3007 0 2 none] 138 (some 5)),
 (3054, .row [] 220 none),
 (3061, .row [i (-20), i (-20), i 0, i (-20), i (-20), i 0, i 20, .slc 2541 0 21 none, .slc 2543 0 21 none, i 10000, i 0, i 0, i 0, i 2, i 20, .slc 2547 0 21 none, .slc 2549 0 21 none, i 0, i 1, i 0, i 2, i 8, i 250, i 120, i 3, i 200, i 0, i 0, .slc 2551 0 1 none, i 0, i 0, i 9, .slc 2554 0 3 (some 3), .slc 2600 0 0 (some 0), .slc 2601 0 0 (some 0), i (-20), i (-20), i 0, i (-20), i (-20), i 0, i 20, .slc 2983 0 21 none, .slc 2985 0 21 none, i 10000, i 0, i 0, i 0, i 2, i 20, .slc 2987 0 21 none, .slc 2989 0 21 none, i 0, i 1, i 0, .slc 3011 0 3 none, z, z, .slc 3054 0 0 (some 0), z] 100 none)]
def V9 : List (Nat × AV) := [(0, .o (.c (b true)))]
def B9 : List (Nat × Bk) := []
end Go.Proofs.YtgaglgopbdfemaaGreatDoor.Liv
